/- Each function computes what its plain text says: printed by a program of ours. -/
import Derived.Test.YtocjhbbldeankaaDoorRgW1
namespace Go.Rv
open Go.Proofs
set_option maxRecDepth 100000
set_option maxHeartbeats 4000000
set_option linter.unusedVariables false
abbrev r4r_bounds_q (bx0 : Nat) (r : Int × Int × r4r) : Exit → St → Prop := retS Tryd.prog Tryd.f91 (fun y t => ∃ γ : Nat → Value, y = (.tup [.int .i64 r.1, .int .i64 r.2.1]) ∧ t = [(o88 bx0 r.2.2.s r.2.2.at_ (γ 0) r.2.2.deep r.2.2.e r.2.2.where_), .arrA (γ 0) 42 9 (r.2.2.nodes.map c_aNd)])
abbrev r4r_bounds_qs1111111111 (bx0 : Nat) (r : Int × Int × r4r) : Exit → St → Prop := thenS (fun s' => T Tryd.prog 122 (Code.at [1, 1, 1, 1, 1, 1, 1, 1, 1, 1] (codeOf Tryd.f91)) s' ((r4r_bounds_q bx0 r))) ((r4r_bounds_q bx0 r))
abbrev r4r_bounds_qs111111 (bx0 : Nat) (r : Int × Int × r4r) : Exit → St → Prop := thenS (fun s' => T Tryd.prog 122 (Code.at [1, 1, 1, 1, 1, 1] (codeOf Tryd.f91)) s' ((r4r_bounds_q bx0 r))) ((r4r_bounds_q bx0 r))
theorem r4r_bounds_j5_T {r : Int × Int × r4r} (K : Nat) (bx0 : Nat) (b : Int) (c : Int) (d : ByteArray) (f : Int) (g : Int) (i : Int) (j : Int) (l : List aNd) (a : Value) (h : r4r_bounds_j5 K b c d f g i j l = some r) : T Tryd.prog 122 (Code.at [1, 1, 1, 1, 1, 1, 1, 1, 1, 1] (codeOf Tryd.f91)) ⟨[(5, .int .i64 b), (6, .int .i64 c)], [(o88 bx0 d f a g i j), .arrA a 42 9 (l.map c_aNd)]⟩ (r4r_bounds_q bx0 r) := by
 unfold r4r_bounds_j5 at h
 refine T.seq (T.rL ?_)
 refine mw rfl ?_
 refine mw rfl ?_
 refine aw rfl ?_
 refine aw rfl ?_
 refine TL'.nil (tN ?_)
 refine T.ret ?_
 exact Fin.doneK (.cons _ _ _ _ (.tmp 2 _ rfl) (.cons _ _ _ _ (.tmp 3 _ rfl) .nil)) (.cons 0 rfl (.cons 0 rfl (.nil _))) (by cases h; exact ⟨gl [a], rfl, rfl⟩)
theorem r4r_bounds_j3_T {r : Int × Int × r4r} (K : Nat) (bx0 : Nat) (x0 : r4r) (b : Int) (d : Int) (g : ByteArray) (i : Int) (j : Int) (l : Int) (m : Int) (p : List aNd) (f : Value) (h : r4r_bounds_j3 K x0 b d g i j l m p = some r) : T Tryd.prog 122 (Code.at [1, 1, 1, 1, 1, 1, 1, 1, 1, 0, 1, 0] (codeOf Tryd.f91)) ⟨[(0, .ptr bx0 0), (4, .int .i64 x0.at_), (5, .int .i64 b), (6, .int .i64 d)], [(o88 bx0 g i f j l m), .arrA f 42 9 (p.map c_aNd)]⟩ (r4r_bounds_qs1111111111 bx0 r) := by
 unfold r4r_bounds_j3 at h
 refine T.rL ?_
 refine mw rfl ?_
 refine mw rfl ?_
 obtain ⟨a, q, h⟩ := bind_some h
 refine sp rfl (OpT.callG (is := [0, 1]) (ph := []) rfl (dk rfl) Tryd.func50 rfl rfl (Args.cons rfl (Args.cons rfl (Args.cons rfl Args.nil))) (r4r_fail_T K (bx0 := bx0) (wx0c2 := f) q) (.cons rfl rfl (.cons rfl rfl (.nil))) (fun _ => rfl) (fun u => ?_))
 refine nm (.c (.c (.n))) ?_
 refine TL'.nil (tN ?_)
 refine T.by_turn ?_ (r4r_bounds_j5_T K bx0 b d a.s a.at_ a.deep a.e a.where_ a.nodes (u 0) h)
 exact Turn.rp (.cons rfl (.cons rfl (.nil _))) (.c .z (.c .z (.n _)))
theorem r4r_bounds_j4_T {r : Int × Int × r4r} (K : Nat) (bx0 : Nat) (a : Int) (b : Int) (d : ByteArray) (f : Int) (g : Int) (i : Int) (j : Int) (l : List aNd) (m : Value) (h : r4r_bounds_j4 K a b d f g i j l = some r) : T Tryd.prog 122 (Code.at [1, 1, 1, 1, 1, 1, 1, 1, 1, 0, 1, 1] (codeOf Tryd.f91)) ⟨[(5, .int .i64 a), (6, .int .i64 b)], [(o88 bx0 d f m g i j), .arrA m 42 9 (l.map c_aNd)]⟩ (r4r_bounds_qs1111111111 bx0 r) := by
 unfold r4r_bounds_j4 at h
 refine T.skip (tN ?_)
 refine T.by_turn ?_ (r4r_bounds_j5_T K bx0 a b d f g i j l m h)
 exact Turn.rp (.cons rfl (.cons rfl (.nil _))) (.c .z (.c .z (.n _)))
theorem r4r_bounds_j0_T {r : Int × Int × r4r} (K : Nat) (bx0 : Nat) (x0 : r4r) (p : Int) (q : Int) (a : ByteArray) (b : Int) (g : Int) (j : Int) (l : Int) (s : List aNd) (ab : Value) (h : r4r_bounds_j0 K x0 p q a b g j l s = some r) : T Tryd.prog 122 (Code.at [1, 1, 1, 1, 1, 1] (codeOf Tryd.f91)) ⟨[(0, .ptr bx0 0), (4, .int .i64 x0.at_), (5, .int .i64 p), (6, .int .i64 q)], [(o88 bx0 a b ab g j l), .arrA ab 42 9 (s.map c_aNd)]⟩ (r4r_bounds_q bx0 r) := by
 unfold r4r_bounds_j0 at h
 refine T.seq ?_
 refine T.seq (T.rL ?_)
 refine mw rfl ?_
 obtain ⟨ap, ai, h⟩ := bind_some h
 refine sp rfl (OpT.callG (is := [0, 1]) (ph := []) rfl (dk rfl) Tryd.func49 rfl rfl (Args.cons rfl Args.nil) (r4r_ends_T K (bx0 := bx0) (wx0c2 := ab) ai) (.cons rfl rfl (.cons rfl rfl (.nil))) (fun _ => rfl) (fun f => ?_))
 refine nm (.c (.c (.n))) ?_
 refine TL'.nil (tN ?_)
 rcases bif_some h with ⟨ac, h⟩ | ⟨ac, h⟩
 refine T.condT rfl ac ?_
 refine T.seq (T.rL ?_)
 refine mw rfl ?_
 refine mw rfl ?_
 refine sp rfl (OpT.nilCheck rfl (dk rfl) rfl rfl ?_)
 refine sp rfl (OpT.fieldPtr rfl (dk rfl) ul88 rfl i9 (by decide) rfl ?_)
 refine sp rfl (OpT.lB (i := 0) rfl (dk rfl) ul9 rfl rfl rfl rfl ?_)
 refine sp rfl (OpT.lenStr rfl (dk rfl) ul9 rfl ?_)
 obtain ⟨aq, aj, h⟩ := bind_some h
 refine sp rfl (OpT.callG (is := [0, 1]) (ph := []) rfl (dk rfl) Tryd.func50 rfl rfl (Args.cons rfl (Args.cons rfl (Args.cons rfl Args.nil))) (r4r_fail_T K (bx0 := bx0) (wx0c2 := (f 0)) aj) (.cons rfl rfl (.cons rfl rfl (.nil))) (fun _ => rfl) (fun al => ?_))
 refine nm (.c (.c (.n))) ?_
 refine TL'.nil (tN (T.seq (T.rL ?_)))
 refine aw rfl ?_
 refine aw rfl ?_
 refine TL'.nil (tN ?_)
 refine T.ret (thenS_ret ?_)
 exact Fin.doneK (.cons _ _ _ _ (.tmp 2 _ rfl) (.cons _ _ _ _ (.tmp 3 _ rfl) .nil)) (.cons 0 rfl (.cons 0 rfl (.nil _))) (by cases h; exact ⟨gl [al 0], rfl, rfl⟩)
 refine T.condF rfl ac ?_
 refine T.skip (tN ?_)
 refine T.seq ?_
 refine T.seq ?_
 refine DG.start ?_
 refine DG.mv rfl rfl rfl rfl rfl rfl ?_
 refine DG.step (c := ⟨some 72, .ptr bx0 0, [(71, .ptr bx0 0)], [], []⟩) (fun t hm => One.step rfl (.free rfl) (OpT.nilCheck rfl (dk rfl) hm.s0 rfl rfl)) (Ct.mo rfl rfl) ?_
 refine DG.step (c := ⟨some 73, .ptr bx0 (0 + 0), [(72, .ptr bx0 0)], [], []⟩) (fun t hm => One.step rfl (.free rfl) (OpT.fieldPtr rfl (dk rfl) ul88 rfl i9 (by decide) hm.s0 rfl)) (Ct.mo rfl rfl) ?_
 refine DG.step (c := ⟨some 74, .str a, [(73, .ptr bx0 (0 + 0))], [(0, (o88 bx0 a b (f 0) g j l))], []⟩) (fun t hm => One.step rfl (.free rfl) (OpT.lB (i := 0) rfl (dk rfl) ul9 rfl hm.s0 hm.o0 rfl rfl)) (Ct.mo rfl rfl) ?_
 refine DG.mv rfl rfl rfl rfl rfl rfl ?_
 refine DG.step (c := ⟨some 76, .ptr bx0 0, [(75, .ptr bx0 0)], [], []⟩) (fun t hm => One.step rfl (.free rfl) (OpT.nilCheck rfl (dk rfl) hm.s0 rfl rfl)) (Ct.mo rfl rfl) ?_
 refine DG.step (c := ⟨some 77, .ptr bx0 (0 + 1), [(76, .ptr bx0 0)], [], []⟩) (fun t hm => One.step rfl (.free rfl) (OpT.fieldPtr rfl (dk rfl) ul88 rfl i3 (by decide) hm.s0 rfl)) (Ct.mo rfl rfl) ?_
 refine DG.step (c := ⟨some 78, .int .i64 b, [(77, .ptr bx0 (0 + 1))], [(0, (o88 bx0 a b (f 0) g j l))], []⟩) (fun t hm => One.step rfl (.free rfl) (OpT.lB (i := 0) rfl (dk rfl) ul3 rfl hm.s0 hm.o0 rfl rfl)) (Ct.mo rfl rfl) ?_
 obtain ⟨ag, h⟩ := ck_some h
 refine DG.step (c := ⟨some 79, .int .u8 (bt a b), [(74, .str a), (78, .int .i64 b)], [], []⟩) (fun t hm => One.step rfl (.free rfl) (OpT.indexStr rfl (dk rfl) ul9 hm.s0 hm.s1 ag.1 ag.2 rfl)) (Ct.mo rfl rfl) ?_
 refine DG.step (c := ⟨some 80, .bool ((bt a b) != (125 : Int)), [(79, .int .u8 (bt a b))], [], []⟩) (fun t hm => One.step rfl (.free rfl) (OpT.int2 rfl rfl (dk rfl) hm.s0 rfl rfl)) (Ct.mo rfl rfl) ?_
 refine DG.fin (s1 := ⟨[(0, .ptr bx0 0), (4, .int .i64 x0.at_), (5, .int .i64 p), (6, .int .i64 q), (80, .bool ((bt a b) != (125 : Int)))], [(o88 bx0 a b (f 0) g j l), .arrA (f 0) 42 9 ((s).map c_aNd)]⟩) (ms := [0, 1, 3, 7, 0, 16, 48, 112, 255, 511]) TrydMixed rfl (by kernel_rfl) (by kernel_rfl) (by kernel_rfl) (.cons rfl (.cons rfl (.cons rfl (.cons rfl (.cons rfl (.nil _)))))) rfl (fun u hu => (tN (T.by_turn hu ?_)))
 rcases bif_some h with ⟨ad, h⟩ | ⟨ad, h⟩
 refine T.condT rfl ad ?_
 refine T.seq (T.rL ?_)
 refine mw rfl ?_
 refine mw rfl ?_
 refine sp rfl (OpT.nilCheck rfl (dk rfl) rfl rfl ?_)
 refine sp rfl (OpT.fieldPtr rfl (dk rfl) ul88 rfl i3 (by decide) rfl ?_)
 refine sp rfl (OpT.lB (i := 0) rfl (dk rfl) ul3 rfl rfl rfl rfl ?_)
 obtain ⟨au, am, h⟩ := bind_some h
 refine sp rfl (OpT.callG (is := [0, 1]) (ph := []) rfl (dk rfl) Tryd.func50 rfl rfl (Args.cons rfl (Args.cons rfl (Args.cons rfl Args.nil))) (r4r_fail_T K (bx0 := bx0) (wx0c2 := (f 0)) am) (.cons rfl rfl (.cons rfl rfl (.nil))) (fun _ => rfl) (fun an => ?_))
 refine nm (.c (.c (.n))) ?_
 refine TL'.nil (tN (T.seq (T.rL ?_)))
 refine aw rfl ?_
 refine aw rfl ?_
 refine TL'.nil (tN ?_)
 refine T.ret (thenS_ret ?_)
 exact Fin.doneK (.cons _ _ _ _ (.tmp 2 _ rfl) (.cons _ _ _ _ (.tmp 3 _ rfl) .nil)) (.cons 0 rfl (.cons 0 rfl (.nil _))) (by cases h; exact ⟨gl [an 0], rfl, rfl⟩)
 refine T.condF rfl ad ?_
 refine T.skip (tN ?_)
 refine T.seq (T.rL ?_)
 refine mw rfl ?_
 refine sp rfl (OpT.nilCheck rfl (dk rfl) rfl rfl ?_)
 refine sp rfl (OpT.fieldPtr rfl (dk rfl) ul88 rfl i3 (by decide) rfl ?_)
 refine sp rfl (OpT.lB (i := 0) rfl (dk rfl) ul3 rfl rfl rfl rfl ?_)
 refine sp rfl (OpT.int2 rfl rfl (dk rfl) rfl rfl ?_)
 refine sp rfl (OpT.nilCheck rfl (dk rfl) rfl rfl ?_)
 refine sp rfl (OpT.fieldPtr rfl (dk rfl) ul88 rfl i3 (by decide) rfl ?_)
 refine sp rfl (OpT.storeTo (i := 0) (cells' := [.d (.str a), .d (.int .i64 (wI (b + (1 : Int)))), .d (.ex (f 0)), .d (.int .i64 g), .d (.int .i64 j), .d (.int .i64 l)]) rfl rfl i3 rfl rfl rfl (nb rfl) rfl ?_)
 refine TL'.nil (tN ?_)
 refine T.seq ?_
 refine T.seq (T.rL ?_)
 refine mw rfl ?_
 refine sp rfl (OpT.int2 rfl rfl (dk rfl) rfl rfl ?_)
 refine mw rfl ?_
 rcases bif_some h with ⟨w, h⟩ | ⟨w, h⟩
 refine TL'.pU (.off _ _ _ _ rfl rfl rfl w) (dk rfl) ?_
 refine TL'.pU (.off _ _ _ _ rfl rfl rfl w) (dk rfl) ?_
 refine sp rfl (OpT.pickT rfl (dk rfl) rfl w rfl ?_)
 refine mw rfl ?_
 refine TL'.pU (.off _ _ _ _ rfl rfl rfl rfl) (dk rfl) ?_
 refine TL'.pU (.off _ _ _ _ rfl rfl rfl rfl) (dk rfl) ?_
 refine sp rfl (OpT.pickT rfl (dk rfl) rfl rfl rfl ?_)
 refine mw rfl ?_
 refine TL'.pU (.off _ _ _ _ rfl rfl rfl rfl) (dk rfl) ?_
 refine TL'.pU (.off _ _ _ _ rfl rfl rfl rfl) (dk rfl) ?_
 refine sp rfl (OpT.pickT rfl (dk rfl) rfl rfl rfl ?_)
 refine mw rfl ?_
 refine TL'.pU (.off _ _ _ _ rfl rfl rfl rfl) (dk rfl) ?_
 refine TL'.pU (.off _ _ _ _ rfl rfl rfl rfl) (dk rfl) ?_
 refine TL'.pU (.off _ _ _ _ rfl rfl rfl rfl) (dk rfl) ?_
 refine TL'.pU (.gone _ _ _ rfl rfl rfl) (dk rfl) ?_
 refine TL'.pU (.gone _ _ _ rfl rfl rfl) (dk rfl) ?_
 refine TL'.pU (.gone _ _ _ rfl rfl rfl) (dk rfl) ?_
 refine TL'.pU (.off _ _ _ _ rfl rfl rfl rfl) (dk rfl) ?_
 refine sp rfl (OpT.pickT rfl (dk rfl) rfl rfl rfl ?_)
 refine TL'.nil (tN ?_)
 refine T.condT rfl rfl ?_
 refine T.by_turn ?_ (r4r_bounds_j3_T K bx0 x0 p q a (wI (b + (1 : Int))) g j l s (f 0) h)
 exact Turn.rp (.cons rfl (.cons rfl (.cons rfl (.cons rfl (.nil _))))) (.c .z (.c .z (.n _)))
 refine TL'.step (.on rfl rfl rfl w) (OpT.move rfl (dk rfl) rfl ?_)
 refine TL'.step (.on rfl rfl rfl w) (OpT.int2 rfl rfl (dk rfl) rfl rfl ?_)
 refine sp rfl (OpT.pickF rfl (dk rfl) rfl w rfl ?_)
 refine mw rfl ?_
 rcases bif_some h with ⟨y, h⟩ | ⟨y, h⟩
 refine TL'.pU (.off _ _ _ _ rfl rfl rfl y) (dk rfl) ?_
 refine TL'.pU (.off _ _ _ _ rfl rfl rfl y) (dk rfl) ?_
 refine sp rfl (OpT.pickT rfl (dk rfl) rfl y rfl ?_)
 refine mw rfl ?_
 refine TL'.pU (.off _ _ _ _ rfl rfl rfl rfl) (dk rfl) ?_
 refine TL'.pU (.off _ _ _ _ rfl rfl rfl rfl) (dk rfl) ?_
 refine sp rfl (OpT.pickT rfl (dk rfl) rfl rfl rfl ?_)
 refine mw rfl ?_
 refine TL'.pU (.off _ _ _ _ rfl rfl rfl rfl) (dk rfl) ?_
 refine TL'.pU (.off _ _ _ _ rfl rfl rfl rfl) (dk rfl) ?_
 refine TL'.pU (.off _ _ _ _ rfl rfl rfl rfl) (dk rfl) ?_
 refine TL'.pU (.gone _ _ _ rfl rfl rfl) (dk rfl) ?_
 refine TL'.pU (.gone _ _ _ rfl rfl rfl) (dk rfl) ?_
 refine TL'.pU (.gone _ _ _ rfl rfl rfl) (dk rfl) ?_
 refine TL'.pU (.off _ _ _ _ rfl rfl rfl rfl) (dk rfl) ?_
 refine sp rfl (OpT.pickT rfl (dk rfl) rfl rfl rfl ?_)
 refine TL'.nil (tN ?_)
 refine T.condT rfl rfl ?_
 refine T.by_turn ?_ (r4r_bounds_j3_T K bx0 x0 p q a (wI (b + (1 : Int))) g j l s (f 0) h)
 exact Turn.rp (.cons rfl (.cons rfl (.cons rfl (.cons rfl (.nil _))))) (.c .z (.c .z (.n _)))
 refine TL'.step (.on rfl rfl rfl y) (OpT.move rfl (dk rfl) rfl ?_)
 refine TL'.step (.on rfl rfl rfl y) (OpT.int2 rfl rfl (dk rfl) rfl rfl ?_)
 refine sp rfl (OpT.pickF rfl (dk rfl) rfl y rfl ?_)
 refine mw rfl ?_
 rcases bif_some h with ⟨aa, h⟩ | ⟨aa, h⟩
 refine TL'.pU (.off _ _ _ _ rfl rfl rfl aa) (dk rfl) ?_
 refine TL'.pU (.off _ _ _ _ rfl rfl rfl aa) (dk rfl) ?_
 refine sp rfl (OpT.pickT rfl (dk rfl) rfl aa rfl ?_)
 refine mw rfl ?_
 refine TL'.pU (.off _ _ _ _ rfl rfl rfl rfl) (dk rfl) ?_
 refine TL'.pU (.off _ _ _ _ rfl rfl rfl rfl) (dk rfl) ?_
 refine TL'.pU (.off _ _ _ _ rfl rfl rfl rfl) (dk rfl) ?_
 refine TL'.pU (.gone _ _ _ rfl rfl rfl) (dk rfl) ?_
 refine TL'.pU (.gone _ _ _ rfl rfl rfl) (dk rfl) ?_
 refine TL'.pU (.gone _ _ _ rfl rfl rfl) (dk rfl) ?_
 refine TL'.pU (.off _ _ _ _ rfl rfl rfl rfl) (dk rfl) ?_
 refine sp rfl (OpT.pickT rfl (dk rfl) rfl rfl rfl ?_)
 refine TL'.nil (tN ?_)
 refine T.condT rfl rfl ?_
 refine T.by_turn ?_ (r4r_bounds_j3_T K bx0 x0 p q a (wI (b + (1 : Int))) g j l s (f 0) h)
 exact Turn.rp (.cons rfl (.cons rfl (.cons rfl (.cons rfl (.nil _))))) (.c .z (.c .z (.n _)))
 refine TL'.step (.on rfl rfl rfl aa) (OpT.move rfl (dk rfl) rfl ?_)
 refine TL'.step (.on rfl rfl rfl aa) (OpT.int2 rfl rfl (dk rfl) rfl rfl ?_)
 refine sp rfl (OpT.pickF rfl (dk rfl) rfl aa rfl ?_)
 refine mw rfl ?_
 rcases bif_some h with ⟨m, h⟩ | ⟨m, h⟩
 refine TL'.pU (.off _ _ _ _ rfl rfl rfl m) (dk rfl) ?_
 refine TL'.pU (.off _ _ _ _ rfl rfl rfl m) (dk rfl) ?_
 refine TL'.pU (.off _ _ _ _ rfl rfl rfl m) (dk rfl) ?_
 refine TL'.pU (.gone _ _ _ rfl rfl rfl) (dk rfl) ?_
 refine TL'.pU (.gone _ _ _ rfl rfl rfl) (dk rfl) ?_
 refine TL'.pU (.gone _ _ _ rfl rfl rfl) (dk rfl) ?_
 refine TL'.pU (.off _ _ _ _ rfl rfl rfl m) (dk rfl) ?_
 refine sp rfl (OpT.pickT rfl (dk rfl) rfl m rfl ?_)
 refine TL'.nil (tN ?_)
 refine T.condT rfl rfl ?_
 refine T.by_turn ?_ (r4r_bounds_j3_T K bx0 x0 p q a (wI (b + (1 : Int))) g j l s (f 0) h)
 exact Turn.rp (.cons rfl (.cons rfl (.cons rfl (.cons rfl (.nil _))))) (.c .z (.c .z (.n _)))
 refine TL'.step (.on rfl rfl rfl m) (OpT.move rfl (dk rfl) rfl ?_)
 refine TL'.step (.on rfl rfl rfl m) (OpT.int2 rfl rfl (dk rfl) rfl rfl ?_)
 refine TL'.step (.on rfl rfl rfl m) (OpT.move rfl (dk rfl) rfl ?_)
 rcases bif_some h with ⟨v, h⟩ | ⟨v, h⟩
 refine TL'.step (.on rfl rfl rfl v) (OpT.move rfl (dk rfl) rfl ?_)
 refine TL'.step (.on rfl rfl rfl v) (OpT.move rfl (dk rfl) rfl ?_)
 refine TL'.step (.on rfl rfl rfl v) (OpT.int2 rfl rfl (dk rfl) rfl rfl ?_)
 refine TL'.step (.on rfl rfl rfl m) (OpT.pickT rfl (dk rfl) rfl v rfl ?_)
 refine sp rfl (OpT.pickF rfl (dk rfl) rfl m rfl ?_)
 refine TL'.nil (tN ?_)
 rcases bif_some h with ⟨af, h⟩ | ⟨af, h⟩
 refine T.condT rfl af ?_
 refine T.by_turn ?_ (r4r_bounds_j3_T K bx0 x0 p q a (wI (b + (1 : Int))) g j l s (f 0) h)
 exact Turn.rp (.cons rfl (.cons rfl (.cons rfl (.cons rfl (.nil _))))) (.c .z (.c .z (.n _)))
 refine T.condF rfl af ?_
 refine T.by_turn ?_ (r4r_bounds_j4_T K bx0 p q a (wI (b + (1 : Int))) g j l s (f 0) h)
 exact Turn.rp (.cons rfl (.cons rfl (.nil _))) (.c .z (.c .z (.n _)))
 refine TL'.pU (.off _ _ _ _ rfl rfl rfl v) (dk rfl) ?_
 refine TL'.pU (.off _ _ _ _ rfl rfl rfl v) (dk rfl) ?_
 refine TL'.pU (.off _ _ _ _ rfl rfl rfl v) (dk rfl) ?_
 refine TL'.step (.on rfl rfl rfl m) (OpT.pickF rfl (dk rfl) rfl v rfl ?_)
 refine sp rfl (OpT.pickF rfl (dk rfl) rfl m rfl ?_)
 refine TL'.nil (tN ?_)
 refine T.condF rfl rfl ?_
 refine T.by_turn ?_ (r4r_bounds_j4_T K bx0 p q a (wI (b + (1 : Int))) g j l s (f 0) h)
 exact Turn.rp (.cons rfl (.cons rfl (.nil _))) (.c .z (.c .z (.n _)))
theorem r4r_bounds_j1_T {r : Int × Int × r4r} (K : Nat) (bx0 : Nat) (x0 : r4r) (a : Int) (b : ByteArray) (d : Int) (f : Int) (g : Int) (i : Int) (j : List aNd) (l : Value) (h : r4r_bounds_j1 K x0 a b d f g i j = some r) : T Tryd.prog 122 (Code.at [1, 1, 1, 1, 1, 0, 1, 0, 1, 1, 1, 1] (codeOf Tryd.f91)) ⟨[(0, .ptr bx0 0), (4, .int .i64 x0.at_), (5, .int .i64 a), (6, .int .i64 (-1 : Int))], [(o88 bx0 b d l f g i), .arrA l 42 9 (j.map c_aNd)]⟩ (r4r_bounds_qs111111 bx0 r) := by
 unfold r4r_bounds_j1 at h
 refine T.skip (tN ?_)
 refine T.by_turn ?_ (r4r_bounds_j0_T K bx0 x0 a (-1 : Int) b d f g i j l h)
 exact Turn.rp (.cons rfl (.cons rfl (.cons rfl (.cons rfl (.nil _))))) (.c .z (.c .z (.n _)))
theorem r4r_bounds_j2_T {r : Int × Int × r4r} (K : Nat) (bx0 : Nat) (x0 : r4r) (a : Int) (b : Int) (d : ByteArray) (f : Int) (g : Int) (i : Int) (j : Int) (l : List aNd) (m : Value) (h : r4r_bounds_j2 K x0 a b d f g i j l = some r) : T Tryd.prog 122 (Code.at [1, 1, 1, 1, 1, 0, 1, 1] (codeOf Tryd.f91)) ⟨[(0, .ptr bx0 0), (4, .int .i64 x0.at_), (5, .int .i64 a), (6, .int .i64 b)], [(o88 bx0 d f m g i j), .arrA m 42 9 (l.map c_aNd)]⟩ (r4r_bounds_qs111111 bx0 r) := by
 unfold r4r_bounds_j2 at h
 refine T.skip (tN ?_)
 refine T.by_turn ?_ (r4r_bounds_j0_T K bx0 x0 a b d f g i j l m h)
 exact Turn.rp (.cons rfl (.cons rfl (.cons rfl (.cons rfl (.nil _))))) (.c .z (.c .z (.n _)))
theorem r4r_bounds_T (K : Nat) {x0 : r4r} {bx0 : Nat} {wx0c2 : Value} {r : Int × Int × r4r} (h : r4r_bounds K x0 = some r) : CallG Tryd.prog 91 [.ptr bx0 0] [(o88 bx0 x0.s x0.at_ wx0c2 x0.deep x0.e x0.where_), .arrA wx0c2 42 9 (x0.nodes.map c_aNd)] (fun γ => (.tup [.int .i64 r.1, .int .i64 r.2.1])) (fun γ => [(o88 bx0 r.2.2.s r.2.2.at_ (γ 0) r.2.2.deep r.2.2.e r.2.2.where_), .arrA (γ 0) 42 9 (r.2.2.nodes.map c_aNd)]) := by
 refine CallT.intro Tryd.func91 rfl (nb rfl) ?_
 show T Tryd.prog 122 (Code.at [] (codeOf Tryd.f91)) ⟨paramSlots 0 [.ptr bx0 0], [(o88 bx0 x0.s x0.at_ wx0c2 x0.deep x0.e x0.where_), .arrA wx0c2 42 9 (x0.nodes.map c_aNd)]⟩ (r4r_bounds_q bx0 r)
 unfold r4r_bounds at h
 refine T.seq (T.rL ?_)
 refine aw rfl ?_
 refine aw rfl ?_
 refine TL'.nil (tN (T.seq (T.rL ?_)))
 refine mw rfl ?_
 refine sp rfl (OpT.nilCheck rfl (dk rfl) rfl rfl ?_)
 refine sp rfl (OpT.fieldPtr rfl (dk rfl) ul88 rfl i3 (by decide) rfl ?_)
 refine sp rfl (OpT.lB (i := 0) rfl (dk rfl) ul3 rfl rfl rfl rfl ?_)
 refine aw rfl ?_
 refine TL'.nil (tN (T.seq (T.rL ?_)))
 refine mw rfl ?_
 refine sp rfl (OpT.nilCheck rfl (dk rfl) rfl rfl ?_)
 refine sp rfl (OpT.fieldPtr rfl (dk rfl) ul88 rfl i3 (by decide) rfl ?_)
 refine sp rfl (OpT.lB (i := 0) rfl (dk rfl) ul3 rfl rfl rfl rfl ?_)
 refine sp rfl (OpT.int2 rfl rfl (dk rfl) rfl rfl ?_)
 refine sp rfl (OpT.nilCheck rfl (dk rfl) rfl rfl ?_)
 refine sp rfl (OpT.fieldPtr rfl (dk rfl) ul88 rfl i3 (by decide) rfl ?_)
 refine sp rfl (OpT.storeTo (i := 0) (cells' := [.d (.str x0.s), .d (.int .i64 (wI (x0.at_ + (1 : Int)))), .d (.ex wx0c2), .d (.int .i64 x0.deep), .d (.int .i64 x0.e), .d (.int .i64 x0.where_)]) rfl rfl i3 rfl rfl rfl (nb rfl) rfl ?_)
 refine TL'.nil (tN (T.seq (T.rL ?_)))
 refine mw rfl ?_
 obtain ⟨a, ag, h⟩ := bind_some h
 refine sp rfl (OpT.callG (is := [0, 1]) (ph := []) rfl (dk rfl) Tryd.func107 rfl rfl (Args.cons rfl Args.nil) (r4r_number_T K (bx0 := bx0) (wx0c2 := wx0c2) ag) (.cons rfl rfl (.cons rfl rfl (.nil))) (fun _ => rfl) (fun w => ?_))
 refine nm (.c (.c (.n))) ?_
 refine aw rfl ?_
 refine TL'.nil (tN (T.seq (T.rL ?_)))
 refine mw rfl ?_
 refine aw rfl ?_
 refine TL'.nil (tN ?_)
 refine T.seq ?_
 refine T.seq ?_
 refine DGG.start ?_
 refine DGG.step (c := fun b => ⟨some 21, .ptr bx0 0, [(0, .ptr bx0 0)], [], []⟩) [] (fun _ _ _ => rfl) (fun b t hm => One.step rfl (.free rfl) (OpT.move rfl (dk rfl) hm.s0 ⟨u0, rfl⟩)) (fun b => Ct.mo rfl rfl) ?_
 obtain ⟨m, ai, h⟩ := bind_some h
 refine DGG.step (c := fun b => ⟨some 22, .bool m, [(21, .ptr bx0 0)], [(1, .arrA (w 0) 42 9 (a.2.nodes.map c_aNd)), (0, (o88 bx0 a.2.s a.2.at_ (w 0) a.2.deep a.2.e a.2.where_))], [(0, (o88 bx0 a.2.s a.2.at_ ((b 1).1 0) a.2.deep a.2.e a.2.where_)), (1, .arrA ((b 1).1 0) 42 9 (a.2.nodes.map c_aNd))]⟩) [1] (fun b γ' h => by simp only [h 1 (by decide)]) (fun b t hm => One.step rfl (.free rfl) (OpT.callG (is := [0, 1]) (ph := []) rfl (dk rfl) Tryd.func49 rfl rfl (Args.cons hm.s0 Args.nil) (r4r_ends_T K (bx0 := bx0) (wx0c2 := (w 0)) ai) (.cons hm.o1 rfl (.cons hm.o0 rfl (.nil))) (fun _ => rfl) (fun g => ⟨(g, 0), rfl⟩))) (fun b => Ct.mo rfl rfl) ?_
 refine DGG.step (c := fun b => ⟨some 23, .bool (!m), [(22, .bool m)], [], []⟩) [] (fun _ _ _ => rfl) (fun b t hm => One.step rfl (.free rfl) (OpT.not rfl (dk rfl) hm.s0 ⟨u0, rfl⟩)) (fun b => Ct.mo rfl rfl) ?_
 refine DGG.step (c := fun b => ⟨some 24, .bool (!m), [(23, .bool (!m))], [], []⟩) [] (fun _ _ _ => rfl) (fun b t hm => One.step rfl (.free rfl) (OpT.move rfl (dk rfl) hm.s0 ⟨u0, rfl⟩)) (fun b => Ct.mo rfl rfl) ?_
 rcases bif_some h with ⟨j, h⟩ | ⟨j, h⟩
 refine DGG.step (c := fun b => ⟨some 25, .ptr bx0 0, [(0, .ptr bx0 0), (24, .bool (!m))], [], []⟩) [] (fun _ _ _ => rfl) (fun b t hm => One.step rfl (.on rfl rfl hm.s1 j) (OpT.move rfl (dk rfl) hm.s0 ⟨u0, rfl⟩)) (fun b => Ct.mo rfl rfl) ?_
 refine DGG.step (c := fun b => ⟨some 26, .ptr bx0 0, [(25, .ptr bx0 0), (24, .bool (!m))], [], []⟩) [] (fun _ _ _ => rfl) (fun b t hm => One.step rfl (.on rfl rfl hm.s1 j) (OpT.nilCheck rfl (dk rfl) hm.s0 rfl ⟨u0, rfl⟩)) (fun b => Ct.mo rfl rfl) ?_
 refine DGG.step (c := fun b => ⟨some 27, .ptr bx0 (0 + 0), [(26, .ptr bx0 0), (24, .bool (!m))], [], []⟩) [] (fun _ _ _ => rfl) (fun b t hm => One.step rfl (.on rfl rfl hm.s1 j) (OpT.fieldPtr rfl (dk rfl) ul88 rfl i9 (by decide) hm.s0 ⟨u0, rfl⟩)) (fun b => Ct.mo rfl rfl) ?_
 refine DGG.step (c := fun b => ⟨some 28, .str a.2.s, [(27, .ptr bx0 (0 + 0)), (24, .bool (!m))], [(0, (o88 bx0 a.2.s a.2.at_ ((b 1).1 0) a.2.deep a.2.e a.2.where_))], []⟩) [1] (fun b γ' h => by simp only [h 1 (by decide)]) (fun b t hm => One.step rfl (.on rfl rfl hm.s1 j) (OpT.lB (i := 0) rfl (dk rfl) ul9 rfl hm.s0 hm.o0 rfl ⟨u0, rfl⟩)) (fun b => Ct.mo rfl rfl) ?_
 refine DGG.step (c := fun b => ⟨some 29, .ptr bx0 0, [(0, .ptr bx0 0), (24, .bool (!m))], [], []⟩) [] (fun _ _ _ => rfl) (fun b t hm => One.step rfl (.on rfl rfl hm.s1 j) (OpT.move rfl (dk rfl) hm.s0 ⟨u0, rfl⟩)) (fun b => Ct.mo rfl rfl) ?_
 refine DGG.step (c := fun b => ⟨some 30, .ptr bx0 0, [(29, .ptr bx0 0), (24, .bool (!m))], [], []⟩) [] (fun _ _ _ => rfl) (fun b t hm => One.step rfl (.on rfl rfl hm.s1 j) (OpT.nilCheck rfl (dk rfl) hm.s0 rfl ⟨u0, rfl⟩)) (fun b => Ct.mo rfl rfl) ?_
 refine DGG.step (c := fun b => ⟨some 31, .ptr bx0 (0 + 1), [(30, .ptr bx0 0), (24, .bool (!m))], [], []⟩) [] (fun _ _ _ => rfl) (fun b t hm => One.step rfl (.on rfl rfl hm.s1 j) (OpT.fieldPtr rfl (dk rfl) ul88 rfl i3 (by decide) hm.s0 ⟨u0, rfl⟩)) (fun b => Ct.mo rfl rfl) ?_
 refine DGG.step (c := fun b => ⟨some 32, .int .i64 a.2.at_, [(31, .ptr bx0 (0 + 1)), (24, .bool (!m))], [(0, (o88 bx0 a.2.s a.2.at_ ((b 1).1 0) a.2.deep a.2.e a.2.where_))], []⟩) [1] (fun b γ' h => by simp only [h 1 (by decide)]) (fun b t hm => One.step rfl (.on rfl rfl hm.s1 j) (OpT.lB (i := 0) rfl (dk rfl) ul3 rfl hm.s0 hm.o0 rfl ⟨u0, rfl⟩)) (fun b => Ct.mo rfl rfl) ?_
 obtain ⟨ac, h⟩ := ck_some h
 refine DGG.step (c := fun b => ⟨some 33, .int .u8 (bt a.2.s a.2.at_), [(28, .str a.2.s), (32, .int .i64 a.2.at_), (24, .bool (!m))], [], []⟩) [] (fun _ _ _ => rfl) (fun b t hm => One.step rfl (.on rfl rfl hm.s2 j) (OpT.indexStr rfl (dk rfl) ul9 hm.s0 hm.s1 ac.1 ac.2 ⟨u0, rfl⟩)) (fun b => Ct.mo rfl rfl) ?_
 refine DGG.step (c := fun b => ⟨some 34, .bool ((bt a.2.s a.2.at_) == (44 : Int)), [(33, .int .u8 (bt a.2.s a.2.at_)), (24, .bool (!m))], [], []⟩) [] (fun _ _ _ => rfl) (fun b t hm => One.step rfl (.on rfl rfl hm.s1 j) (OpT.int2 rfl rfl (dk rfl) hm.s0 rfl ⟨u0, rfl⟩)) (fun b => Ct.mo rfl rfl) ?_
 refine DGG.step (c := fun b => ⟨some 35, .bool ((bt a.2.s a.2.at_) == (44 : Int)), [(24, .bool (!m)), (34, .bool ((bt a.2.s a.2.at_) == (44 : Int)))], [], []⟩) [] (fun _ _ _ => rfl) (fun b t hm => One.step rfl (.free rfl) (OpT.pickT rfl (dk rfl) hm.s0 j hm.s1 ⟨u0, rfl⟩)) (fun b => Ct.mo rfl rfl) ?_
 refine DGG.fin (s1 := fun b => ⟨[(0, .ptr bx0 0), (4, .int .i64 x0.at_), (5, .int .i64 a.1), (6, .int .i64 a.1), (35, .bool ((bt a.2.s a.2.at_) == (44 : Int)))], [(o88 bx0 a.2.s a.2.at_ ((b 1).1 0) a.2.deep a.2.e a.2.where_), .arrA ((b 1).1 0) 42 9 (a.2.nodes.map c_aNd)]⟩) (ms := [0, 1, 3, 7, 15, 31, 63, 127, 15, 271, 783, 1807, 4095, 8191, 16383]) TrydMixed rfl (by kernel_rfl) (by kernel_rfl) (by kernel_rfl) (fun b => by kernel_rfl) (fun b => .cons rfl (.cons rfl (.cons rfl (.cons rfl (.cons rfl (.nil _)))))) (fun _ => rfl) (fun b u hu => (tN (T.by_turn hu ?_)))
 rcases bif_some h with ⟨y, h⟩ | ⟨y, h⟩
 refine T.condT rfl y ?_
 refine T.seq (T.rL ?_)
 refine mw rfl ?_
 refine sp rfl (OpT.nilCheck rfl (dk rfl) rfl rfl ?_)
 refine sp rfl (OpT.fieldPtr rfl (dk rfl) ul88 rfl i3 (by decide) rfl ?_)
 refine sp rfl (OpT.lB (i := 0) rfl (dk rfl) ul3 rfl rfl rfl rfl ?_)
 refine sp rfl (OpT.int2 rfl rfl (dk rfl) rfl rfl ?_)
 refine sp rfl (OpT.nilCheck rfl (dk rfl) rfl rfl ?_)
 refine sp rfl (OpT.fieldPtr rfl (dk rfl) ul88 rfl i3 (by decide) rfl ?_)
 refine sp rfl (OpT.storeTo (i := 0) (cells' := [.d (.str a.2.s), .d (.int .i64 (wI (a.2.at_ + (1 : Int)))), .d (.ex ((b 1).1 0)), .d (.int .i64 a.2.deep), .d (.int .i64 a.2.e), .d (.int .i64 a.2.where_)]) rfl rfl i3 rfl rfl rfl (nb rfl) rfl ?_)
 refine TL'.nil (tN (T.seq (T.rL ?_)))
 refine aw rfl ?_
 refine TL'.nil (tN ?_)
 refine T.seq ?_
 refine DGG.start ?_
 refine DGG.step (c := fun f => ⟨some 43, .ptr bx0 0, [(0, .ptr bx0 0)], [], []⟩) [] (fun _ _ _ => rfl) (fun f t hm => One.step rfl (.free rfl) (OpT.move rfl (dk rfl) hm.s0 ⟨u0, rfl⟩)) (fun f => Ct.mo rfl rfl) ?_
 obtain ⟨p, aj, h⟩ := bind_some h
 refine DGG.step (c := fun f => ⟨some 44, .bool p, [(43, .ptr bx0 0)], [(1, .arrA ((b 1).1 0) 42 9 (a.2.nodes.map c_aNd)), (0, (o88 bx0 a.2.s (wI (a.2.at_ + (1 : Int))) ((b 1).1 0) a.2.deep a.2.e a.2.where_))], [(0, (o88 bx0 a.2.s ((wI (a.2.at_ + (1 : Int)))) ((f 1).1 0) a.2.deep a.2.e a.2.where_)), (1, .arrA ((f 1).1 0) 42 9 ((a.2.nodes).map c_aNd))]⟩) [1] (fun f γ' h => by simp only [h 1 (by decide)]) (fun f t hm => One.step rfl (.free rfl) (OpT.callG (is := [0, 1]) (ph := []) rfl (dk rfl) Tryd.func49 rfl rfl (Args.cons hm.s0 Args.nil) (r4r_ends_T K (bx0 := bx0) (wx0c2 := ((b 1).1 0)) aj) (.cons hm.o1 rfl (.cons hm.o0 rfl (.nil))) (fun _ => rfl) (fun g => ⟨(g, 0), rfl⟩))) (fun f => Ct.mo rfl rfl) ?_
 refine DGG.step (c := fun f => ⟨some 45, .bool (!p), [(44, .bool p)], [], []⟩) [] (fun _ _ _ => rfl) (fun f t hm => One.step rfl (.free rfl) (OpT.not rfl (dk rfl) hm.s0 ⟨u0, rfl⟩)) (fun f => Ct.mo rfl rfl) ?_
 refine DGG.step (c := fun f => ⟨some 46, .bool (!p), [(45, .bool (!p))], [], []⟩) [] (fun _ _ _ => rfl) (fun f t hm => One.step rfl (.free rfl) (OpT.move rfl (dk rfl) hm.s0 ⟨u0, rfl⟩)) (fun f => Ct.mo rfl rfl) ?_
 rcases bif_some h with ⟨l, h⟩ | ⟨l, h⟩
 refine DGG.step (c := fun f => ⟨some 47, .ptr bx0 0, [(0, .ptr bx0 0), (46, .bool (!p))], [], []⟩) [] (fun _ _ _ => rfl) (fun f t hm => One.step rfl (.on rfl rfl hm.s1 l) (OpT.move rfl (dk rfl) hm.s0 ⟨u0, rfl⟩)) (fun f => Ct.mo rfl rfl) ?_
 refine DGG.step (c := fun f => ⟨some 48, .ptr bx0 0, [(47, .ptr bx0 0), (46, .bool (!p))], [], []⟩) [] (fun _ _ _ => rfl) (fun f t hm => One.step rfl (.on rfl rfl hm.s1 l) (OpT.nilCheck rfl (dk rfl) hm.s0 rfl ⟨u0, rfl⟩)) (fun f => Ct.mo rfl rfl) ?_
 refine DGG.step (c := fun f => ⟨some 49, .ptr bx0 (0 + 0), [(48, .ptr bx0 0), (46, .bool (!p))], [], []⟩) [] (fun _ _ _ => rfl) (fun f t hm => One.step rfl (.on rfl rfl hm.s1 l) (OpT.fieldPtr rfl (dk rfl) ul88 rfl i9 (by decide) hm.s0 ⟨u0, rfl⟩)) (fun f => Ct.mo rfl rfl) ?_
 refine DGG.step (c := fun f => ⟨some 50, .str a.2.s, [(49, .ptr bx0 (0 + 0)), (46, .bool (!p))], [(0, (o88 bx0 a.2.s ((wI (a.2.at_ + (1 : Int)))) ((f 1).1 0) a.2.deep a.2.e a.2.where_))], []⟩) [1] (fun f γ' h => by simp only [h 1 (by decide)]) (fun f t hm => One.step rfl (.on rfl rfl hm.s1 l) (OpT.lB (i := 0) rfl (dk rfl) ul9 rfl hm.s0 hm.o0 rfl ⟨u0, rfl⟩)) (fun f => Ct.mo rfl rfl) ?_
 refine DGG.step (c := fun f => ⟨some 51, .ptr bx0 0, [(0, .ptr bx0 0), (46, .bool (!p))], [], []⟩) [] (fun _ _ _ => rfl) (fun f t hm => One.step rfl (.on rfl rfl hm.s1 l) (OpT.move rfl (dk rfl) hm.s0 ⟨u0, rfl⟩)) (fun f => Ct.mo rfl rfl) ?_
 refine DGG.step (c := fun f => ⟨some 52, .ptr bx0 0, [(51, .ptr bx0 0), (46, .bool (!p))], [], []⟩) [] (fun _ _ _ => rfl) (fun f t hm => One.step rfl (.on rfl rfl hm.s1 l) (OpT.nilCheck rfl (dk rfl) hm.s0 rfl ⟨u0, rfl⟩)) (fun f => Ct.mo rfl rfl) ?_
 refine DGG.step (c := fun f => ⟨some 53, .ptr bx0 (0 + 1), [(52, .ptr bx0 0), (46, .bool (!p))], [], []⟩) [] (fun _ _ _ => rfl) (fun f t hm => One.step rfl (.on rfl rfl hm.s1 l) (OpT.fieldPtr rfl (dk rfl) ul88 rfl i3 (by decide) hm.s0 ⟨u0, rfl⟩)) (fun f => Ct.mo rfl rfl) ?_
 refine DGG.step (c := fun f => ⟨some 54, .int .i64 ((wI (a.2.at_ + (1 : Int)))), [(53, .ptr bx0 (0 + 1)), (46, .bool (!p))], [(0, (o88 bx0 a.2.s ((wI (a.2.at_ + (1 : Int)))) ((f 1).1 0) a.2.deep a.2.e a.2.where_))], []⟩) [1] (fun f γ' h => by simp only [h 1 (by decide)]) (fun f t hm => One.step rfl (.on rfl rfl hm.s1 l) (OpT.lB (i := 0) rfl (dk rfl) ul3 rfl hm.s0 hm.o0 rfl ⟨u0, rfl⟩)) (fun f => Ct.mo rfl rfl) ?_
 obtain ⟨ad, h⟩ := ck_some h
 refine DGG.step (c := fun f => ⟨some 55, .int .u8 (bt a.2.s ((wI (a.2.at_ + (1 : Int))))), [(50, .str a.2.s), (54, .int .i64 ((wI (a.2.at_ + (1 : Int))))), (46, .bool (!p))], [], []⟩) [] (fun _ _ _ => rfl) (fun f t hm => One.step rfl (.on rfl rfl hm.s2 l) (OpT.indexStr rfl (dk rfl) ul9 hm.s0 hm.s1 ad.1 ad.2 ⟨u0, rfl⟩)) (fun f => Ct.mo rfl rfl) ?_
 obtain ⟨v, al, h⟩ := bind_some h
 refine DGG.step (c := fun f => ⟨some 56, .bool v, [(55, .int .u8 (bt a.2.s ((wI (a.2.at_ + (1 : Int)))))), (46, .bool (!p))], [], []⟩) [] (fun _ _ _ => rfl) (fun f t hm => One.step rfl (.on rfl rfl hm.s1 l) (OpT.callPA rfl (dk rfl) Tryd.func81 rfl rfl (Args.cons hm.s0 Args.nil) (CallR.nil (r4_digit_T K al)) ⟨u0, rfl⟩)) (fun f => Ct.mo rfl rfl) ?_
 refine DGG.step (c := fun f => ⟨some 57, .bool v, [(46, .bool (!p)), (56, .bool v)], [], []⟩) [] (fun _ _ _ => rfl) (fun f t hm => One.step rfl (.free rfl) (OpT.pickT rfl (dk rfl) hm.s0 l hm.s1 ⟨u0, rfl⟩)) (fun f => Ct.mo rfl rfl) ?_
 refine DGG.fin (s1 := fun f => ⟨[(0, .ptr bx0 0), (4, .int .i64 x0.at_), (5, .int .i64 a.1), (6, .int .i64 (-1 : Int)), (57, .bool v)], [(o88 bx0 a.2.s ((wI (a.2.at_ + (1 : Int)))) ((f 1).1 0) a.2.deep a.2.e a.2.where_), .arrA ((f 1).1 0) 42 9 ((a.2.nodes).map c_aNd)]⟩) (ms := [0, 1, 3, 7, 15, 31, 63, 127, 15, 271, 783, 1807, 4095, 8191, 16383]) TrydMixed rfl (by kernel_rfl) (by kernel_rfl) (by kernel_rfl) (fun f => by kernel_rfl) (fun f => .cons rfl (.cons rfl (.cons rfl (.cons rfl (.cons rfl (.nil _)))))) (fun _ => rfl) (fun f u hu => (tN (T.by_turn hu ?_)))
 rcases bif_some h with ⟨aa, h⟩ | ⟨aa, h⟩
 refine T.condT rfl aa ?_
 refine T.seq (T.rL ?_)
 refine mw rfl ?_
 obtain ⟨q, am, h⟩ := bind_some h
 refine sp rfl (OpT.callG (is := [0, 1]) (ph := []) rfl (dk rfl) Tryd.func107 rfl rfl (Args.cons rfl Args.nil) (r4r_number_T K (bx0 := bx0) (wx0c2 := ((f 1).1 0)) am) (.cons rfl rfl (.cons rfl rfl (.nil))) (fun _ => rfl) (fun af => ?_))
 refine nm (.c (.c (.n))) ?_
 refine aw rfl ?_
 refine TL'.nil (tN (T.seq (T.rL ?_)))
 refine mw rfl ?_
 refine sp rfl (OpT.int2 rfl rfl (dk rfl) rfl rfl ?_)
 refine TL'.nil (tN ?_)
 rcases bif_some h with ⟨ab, h⟩ | ⟨ab, h⟩
 refine T.condT rfl ab ?_
 refine T.rL ?_
 refine aw rfl ?_
 refine TL'.nil (tN ?_)
 refine T.by_turn ?_ (r4r_bounds_j0_T K bx0 x0 (-1 : Int) q.1 q.2.s q.2.at_ q.2.deep q.2.e q.2.where_ q.2.nodes (af 0) h)
 exact Turn.rp (.cons rfl (.cons rfl (.cons rfl (.cons rfl (.nil _))))) (.c .z (.c .z (.n _)))
 refine T.condF rfl ab ?_
 refine T.skip (tN ?_)
 refine T.by_turn ?_ (r4r_bounds_j0_T K bx0 x0 a.1 q.1 q.2.s q.2.at_ q.2.deep q.2.e q.2.where_ q.2.nodes (af 0) h)
 exact Turn.rp (.cons rfl (.cons rfl (.cons rfl (.cons rfl (.nil _))))) (.c .z (.c .z (.n _)))
 refine T.condF rfl aa ?_
 refine T.by_turn ?_ (r4r_bounds_j1_T K bx0 x0 a.1 a.2.s ((wI (a.2.at_ + (1 : Int)))) a.2.deep a.2.e a.2.where_ a.2.nodes ((f 1).1 0) h)
 exact Turn.rp (.cons rfl (.cons rfl (.cons rfl (.cons rfl (.nil _))))) (.c .z (.c .z (.n _)))
 refine DGG.off l rfl rfl rfl rfl rfl (fun _ => rfl) ?_
 refine DGG.off l rfl rfl rfl rfl rfl (fun _ => rfl) ?_
 refine DGG.off l rfl rfl rfl rfl rfl (fun _ => rfl) ?_
 refine DGG.off l rfl rfl rfl rfl rfl (fun _ => rfl) ?_
 refine DGG.off l rfl rfl rfl rfl rfl (fun _ => rfl) ?_
 refine DGG.off l rfl rfl rfl rfl rfl (fun _ => rfl) ?_
 refine DGG.off l rfl rfl rfl rfl rfl (fun _ => rfl) ?_
 refine DGG.off l rfl rfl rfl rfl rfl (fun _ => rfl) ?_
 refine DGG.off l rfl rfl rfl rfl rfl (fun _ => rfl) ?_
 refine DGG.off l rfl rfl rfl rfl rfl (fun _ => rfl) ?_
 refine DGG.step (c := fun f => ⟨some 57, .bool false, [(46, .bool (!p))], [], []⟩) [] (fun _ _ _ => rfl) (fun f t hm => One.step rfl (.free rfl) (OpT.pickF rfl (dk rfl) hm.s0 l rfl ⟨u0, rfl⟩)) (fun f => Ct.mo rfl rfl) ?_
 refine DGG.fin (s1 := fun f => ⟨[(0, .ptr bx0 0), (4, .int .i64 x0.at_), (5, .int .i64 a.1), (6, .int .i64 (-1 : Int)), (57, .bool false)], [(o88 bx0 a.2.s ((wI (a.2.at_ + (1 : Int)))) ((f 1).1 0) a.2.deep a.2.e a.2.where_), .arrA ((f 1).1 0) 42 9 ((a.2.nodes).map c_aNd)]⟩) (ms := [0, 1, 3, 7, 15, 31, 63, 127, 15, 271, 783, 1807, 4095, 8191, 16383]) TrydMixed rfl (by kernel_rfl) (by kernel_rfl) (by kernel_rfl) (fun f => by kernel_rfl) (fun f => .cons rfl (.cons rfl (.cons rfl (.cons rfl (.cons rfl (.nil _)))))) (fun _ => rfl) (fun f u hu => (tN (T.by_turn hu ?_)))
 refine T.condF rfl rfl ?_
 refine T.by_turn ?_ (r4r_bounds_j1_T K bx0 x0 a.1 a.2.s ((wI (a.2.at_ + (1 : Int)))) a.2.deep a.2.e a.2.where_ a.2.nodes ((f 1).1 0) h)
 exact Turn.rp (.cons rfl (.cons rfl (.cons rfl (.cons rfl (.nil _))))) (.c .z (.c .z (.n _)))
 refine T.condF rfl y ?_
 refine T.by_turn ?_ (r4r_bounds_j2_T K bx0 x0 a.1 a.1 a.2.s a.2.at_ a.2.deep a.2.e a.2.where_ a.2.nodes ((b 1).1 0) h)
 exact Turn.rp (.cons rfl (.cons rfl (.cons rfl (.cons rfl (.nil _))))) (.c .z (.c .z (.n _)))
 refine DGG.off j rfl rfl rfl rfl rfl (fun _ => rfl) ?_
 refine DGG.off j rfl rfl rfl rfl rfl (fun _ => rfl) ?_
 refine DGG.off j rfl rfl rfl rfl rfl (fun _ => rfl) ?_
 refine DGG.off j rfl rfl rfl rfl rfl (fun _ => rfl) ?_
 refine DGG.off j rfl rfl rfl rfl rfl (fun _ => rfl) ?_
 refine DGG.off j rfl rfl rfl rfl rfl (fun _ => rfl) ?_
 refine DGG.off j rfl rfl rfl rfl rfl (fun _ => rfl) ?_
 refine DGG.off j rfl rfl rfl rfl rfl (fun _ => rfl) ?_
 refine DGG.off j rfl rfl rfl rfl rfl (fun _ => rfl) ?_
 refine DGG.off j rfl rfl rfl rfl rfl (fun _ => rfl) ?_
 refine DGG.step (c := fun b => ⟨some 35, .bool false, [(24, .bool (!m))], [], []⟩) [] (fun _ _ _ => rfl) (fun b t hm => One.step rfl (.free rfl) (OpT.pickF rfl (dk rfl) hm.s0 j rfl ⟨u0, rfl⟩)) (fun b => Ct.mo rfl rfl) ?_
 refine DGG.fin (s1 := fun b => ⟨[(0, .ptr bx0 0), (4, .int .i64 x0.at_), (5, .int .i64 a.1), (6, .int .i64 a.1), (35, .bool false)], [(o88 bx0 a.2.s a.2.at_ ((b 1).1 0) a.2.deep a.2.e a.2.where_), .arrA ((b 1).1 0) 42 9 (a.2.nodes.map c_aNd)]⟩) (ms := [0, 1, 3, 7, 15, 31, 63, 127, 15, 271, 783, 1807, 4095, 8191, 16383]) TrydMixed rfl (by kernel_rfl) (by kernel_rfl) (by kernel_rfl) (fun b => by kernel_rfl) (fun b => .cons rfl (.cons rfl (.cons rfl (.cons rfl (.cons rfl (.nil _)))))) (fun _ => rfl) (fun b u hu => (tN (T.by_turn hu ?_)))
 refine T.condF rfl rfl ?_
 refine T.by_turn ?_ (r4r_bounds_j2_T K bx0 x0 a.1 a.1 a.2.s a.2.at_ a.2.deep a.2.e a.2.where_ a.2.nodes ((b 1).1 0) h)
 exact Turn.rp (.cons rfl (.cons rfl (.cons rfl (.cons rfl (.nil _))))) (.c .z (.c .z (.n _)))
abbrev r4r_item_q (bx0 : Nat) (r : Int × r4r) : Exit → St → Prop := retS Tryd.prog Tryd.f82 (fun y t => ∃ γ : Nat → Value, y = (.int .i64 r.1) ∧ t = [(o88 bx0 r.2.s r.2.at_ (γ 0) r.2.deep r.2.e r.2.where_), .arrA (γ 0) 42 9 (r.2.nodes.map c_aNd)])
abbrev r4r_item_qs111 (bx0 : Nat) (r : Int × r4r) : Exit → St → Prop := thenS (fun s' => T Tryd.prog 99 (Code.at [1, 1, 1] (codeOf Tryd.f82)) s' ((r4r_item_q bx0 r))) ((r4r_item_q bx0 r))
abbrev r4r_item_qb0x111 (bx0 : Nat) (r : Int × r4r) : Exit → St → Prop := inBlockS 0 ((r4r_item_qs111 bx0 r))
abbrev r4r_item_ql1100 (bx0 : Nat) (r : Int × r4r) : Exit → St → Prop := thenS (fun s' => TL Tryd.prog 99 (Code.at [1, 1, 0, 0, 0] (codeOf Tryd.f82)) s' ((r4r_item_qb0x111 bx0 r))) ((r4r_item_qb0x111 bx0 r))
abbrev r4r_item_qb1_0x1100 (bx0 : Nat) (r : Int × r4r) : Exit → St → Prop := inBlockS 1 ((r4r_item_ql1100 bx0 r))
abbrev r4r_item_qs1100010111 (bx0 : Nat) (r : Int × r4r) : Exit → St → Prop := thenS (fun s' => T Tryd.prog 99 (Code.at [1, 1, 0, 0, 0, 1, 0, 1, 1, 1] (codeOf Tryd.f82)) s' ((r4r_item_qb1_0x1100 bx0 r))) ((r4r_item_qb1_0x1100 bx0 r))
abbrev r4r_item_qb2_1_0x1100010111 (bx0 : Nat) (r : Int × r4r) : Exit → St → Prop := inBlockS 2 ((r4r_item_qs1100010111 bx0 r))
abbrev r4r_item_l0_H (bx0 : Nat) (r : Int × r4r) (go : Int → ByteArray → Int → Int → Int → Int → (List aNd) → Option (Int × r4r)) : Prop := ∀ (a : Int) (b : ByteArray) (c : Int) (d : Int) (f : Int) (g : Int) (i : List aNd) (j : Value), go a b c d f g i = some r → TL Tryd.prog 99 (Code.at [1, 1, 0, 0, 0] (codeOf Tryd.f82)) ⟨[(0, .ptr bx0 0), (3, .int .i64 a)], [(o88 bx0 b c j d f g), .arrA j 42 9 (i.map c_aNd)]⟩ (r4r_item_qb0x111 bx0 r)
theorem r4r_item_j1_T {r : Int × r4r} (K : Nat) (rec_r4r_alternative : r4r → Option (Int × r4r)) (hrec_r4r_alternative : r4r_alternative_S rec_r4r_alternative) (bx0 : Nat) (go0 : Int → ByteArray → Int → Int → Int → Int → (List aNd) → Option (Int × r4r)) (hgo0 : r4r_item_l0_H bx0 r go0) (a : Int) (d : Int) (f : Int) (j : ByteArray) (m : Int) (p : Int) (q : Int) (u : Int) (v : List aNd) (g : Value) (h : r4r_item_j1 K rec_r4r_alternative go0 a d f j m p q u v = some r) : T Tryd.prog 99 (Code.at [1, 1, 0, 0, 0, 1, 0, 1, 1, 1] (codeOf Tryd.f82)) ⟨[(0, .ptr bx0 0), (3, .int .i64 a), (4, .int .i64 d), (5, .int .i64 f)], [(o88 bx0 j m g p q u), .arrA g 42 9 (v.map c_aNd)]⟩ (r4r_item_qb1_0x1100 bx0 r) := by
 unfold r4r_item_j1 at h
 refine T.seq (T.rL ?_)
 refine mw rfl ?_
 refine sp rfl (OpT.nilCheck rfl (dk rfl) rfl rfl ?_)
 refine sp rfl (OpT.fieldPtr rfl (dk rfl) ul88 rfl i35 (by decide) rfl ?_)
 refine sp rfl (OpT.lB (i := 0) rfl (dk rfl) ul35 rfl rfl rfl rfl ?_)
 refine sp rfl (OpT.int2 rfl rfl (dk rfl) rfl rfl ?_)
 refine TL'.nil (tN ?_)
 rcases bif_some h with ⟨w, h⟩ | ⟨w, h⟩
 refine T.condT rfl w ?_
 refine T.rL ?_
 refine mw rfl ?_
 refine mw rfl ?_
 refine sp rfl (OpT.buildSlice (elems := ([a] : List Int).map (cI .i64)) rfl (dk rfl) ul40 i3 (by decide) rfl (all1 rfl) rfl rfl rfl (lenAll rfl) (by decide) ?_)
 refine mw rfl ?_
 refine mw rfl ?_
 refine sp rfl (OpT.thenTurn (OpT.build (l := [.int .u8 (5 : Int), .int .u64 (Arr4.mk 0 0 0 0).a0, .int .u64 (Arr4.mk 0 0 0 0).a1, .int .u64 (Arr4.mk 0 0 0 0).a2, .int .u64 (Arr4.mk 0 0 0 0).a3, .sl true 1 ([a].map (cI .i64)), .int .i64 d, .int .i64 f, .str (⟨#[]⟩ : ByteArray)]) rfl (dk rfl) (built_struct (pl := [(0, 1), (1, 4), (5, 1), (6, 1), (7, 1), (8, 1)]) ul42 i42 rfl) (all1 rfl) rfl rfl rfl) (Turn.weakSlotP 96 (l := [.int .u8 (5 : Int), .int .u64 (Arr4.mk 0 0 0 0).a0, .int .u64 (Arr4.mk 0 0 0 0).a1, .int .u64 (Arr4.mk 0 0 0 0).a2, .int .u64 (Arr4.mk 0 0 0 0).a3, .sl true 1 ([a].map (cI .i64)), .int .i64 d, .int .i64 f, .str (⟨#[]⟩ : ByteArray)]) (l' := [.int .u8 (5 : Int), .int .u64 (Arr4.mk 0 0 0 0).a0, .int .u64 (Arr4.mk 0 0 0 0).a1, .int .u64 (Arr4.mk 0 0 0 0).a2, .int .u64 (Arr4.mk 0 0 0 0).a3, .sl false 1 ([a].map (cI .i64)), .int .i64 d, .int .i64 f, .str (⟨#[]⟩ : ByteArray)]) (.cons (.same _) (.cons (.same _) (.cons (.same _) (.cons (.same _) (.cons (.same _) (.cons (.full _ _ _) (.cons (.same _) (.cons (.same _) (.cons (.same _) (.refl _))))))))))) ?_)
 obtain ⟨b, y, h⟩ := bind_some h
 refine sp rfl (OpT.callG (is := [0, 1]) (ph := []) rfl (dk rfl) Tryd.func65 rfl rfl (Args.cons rfl (Args.cons rfl Args.nil)) (r4r_put_T K (bx0 := bx0) (wx0c2 := g) y) (.cons rfl rfl (.cons rfl rfl (.nil))) (fun _ => rfl) (fun aa => ?_))
 refine nm (.c (.c (.n))) ?_
 refine aw rfl ?_
 refine TL'.nil (inBlock_normal (tN ?_))
 refine TL.by_turn ?_ (hgo0 b.1 b.2.s b.2.at_ b.2.deep b.2.e b.2.where_ b.2.nodes (aa 0) h)
 exact Turn.rp (.cons rfl (.cons rfl (.nil _))) (.c .z (.c .z (.n _)))
 refine T.condF rfl w ?_
 refine T.skip (inBlock_normal (tN ?_))
 refine TL.by_turn ?_ (hgo0 a j m p q u v g h)
 exact Turn.rp (.cons rfl (.cons rfl (.nil _))) (.c .z (.c .z (.n _)))
theorem r4r_item_j2_T {r : Int × r4r} (K : Nat) (rec_r4r_alternative : r4r → Option (Int × r4r)) (hrec_r4r_alternative : r4r_alternative_S rec_r4r_alternative) (bx0 : Nat) (b : Int) (c : ByteArray) (d : Int) (f : Int) (g : Int) (i : Int) (j : List aNd) (a : Value) (h : r4r_item_j2 K rec_r4r_alternative b c d f g i j = some r) : T Tryd.prog 99 (Code.at [1, 1, 0, 0, 0, 1, 0, 1, 1, 0, 0, 1, 1, 1, 1, 1, 1, 1, 1] (codeOf Tryd.f82)) ⟨[(3, .int .i64 b)], [(o88 bx0 c d a f g i), .arrA a 42 9 (j.map c_aNd)]⟩ (r4r_item_qb2_1_0x1100010111 bx0 r) := by
 unfold r4r_item_j2 at h
 refine T.seq (T.rL ?_)
 refine mw rfl ?_
 refine aw rfl ?_
 refine TL'.nil (tN ?_)
 refine T.ret (inBlock_ret (thenS_ret (inBlock_ret (thenS_ret (inBlock_ret (thenS_ret ?_))))))
 exact Fin.doneK (.cons _ _ _ _ (.tmp 2 _ rfl) .nil) (.cons 0 rfl (.cons 0 rfl (.nil _))) (by cases h; exact ⟨gl [a], rfl, rfl⟩)
theorem r4r_item_l0_T {r : Int × r4r} (K : Nat) (rec_r4r_alternative : r4r → Option (Int × r4r)) (hrec_r4r_alternative : r4r_alternative_S rec_r4r_alternative) (bx0 : Nat) : ∀ (k : Nat), ∀ (q : Int) (b : ByteArray) (a : Int) (l : Int) (m : Int) (p : Int) (v : List aNd) (aa : Value), r4r_item_l0 K rec_r4r_alternative k q b a l m p v = some r → TL Tryd.prog 99 (Code.at [1, 1, 0, 0, 0] (codeOf Tryd.f82)) ⟨[(0, .ptr bx0 0), (3, .int .i64 q)], [(o88 bx0 b a aa l m p), .arrA aa 42 9 (v.map c_aNd)]⟩ (r4r_item_qb0x111 bx0 r) := by
  intro k
  induction k with
  | zero =>
    intro q b a l m p v aa h
    cases (show (none : Option (Int × r4r)) = some r from h)
  | succ k ih =>
    intro q b a l m p v aa h
    rw [r4r_item_l0] at h
    refine TL.round ?_
    refine T.seq ?_
    refine T.seq ?_
    refine T.rL ?_
    refine mv rfl rfl rfl rfl rfl ?_
    obtain ⟨aq, al, h⟩ := bind_some h
    refine sp rfl (OpT.callG (is := [0, 1]) (ph := []) rfl (dl rfl rfl) Tryd.func49 rfl rfl (Args.cons rfl Args.nil) (r4r_ends_T K (bx0 := bx0) (wx0c2 := aa) al) (.cons rfl rfl (.cons rfl rfl (.nil))) (fun _ => rfl) (fun f => ?_))
    refine nm (.c (.c (.n))) ?_
    refine sp rfl (OpT.not rfl (dl rfl rfl) rfl ?_)
    refine TL'.nil (tN ?_)
    rcases bif_some h with ⟨ab, h⟩ | ⟨ab, h⟩
    · refine T.condT rfl ab ?_
      refine T.skip (tN ?_)
      refine T.block ?_
      refine T.seq ?_
      refine T.rL ?_
      refine asg rfl rfl rfl rfl rfl ?_
      refine asg rfl rfl rfl rfl rfl ?_
      refine TL'.nil (tN ?_)
      refine T.seq ?_
      refine DG.start ?_
      refine DG.mv rfl rfl rfl rfl rfl rfl ?_
      refine DG.step (c := ⟨some 13, .ptr bx0 0, [(12, .ptr bx0 0)], [], []⟩) (fun t hm => One.step rfl (.free rfl) (OpT.nilCheck rfl (dl rfl rfl) hm.s0 rfl rfl)) (Ct.mo rfl rfl) ?_
      refine DG.step (c := ⟨some 14, .ptr bx0 (0 + 0), [(13, .ptr bx0 0)], [], []⟩) (fun t hm => One.step rfl (.free rfl) (OpT.fieldPtr rfl (dl rfl rfl) Tryd.underlying88 rfl i9 (by decide) hm.s0 rfl)) (Ct.mo rfl rfl) ?_
      refine DG.step (c := ⟨some 15, .str b, [(14, .ptr bx0 (0 + 0))], [(0, (o88 bx0 b a (f 0) l m p))], []⟩) (fun t hm => One.step rfl (.free rfl) (OpT.lB (i := 0) rfl (dl rfl rfl) Tryd.underlying9 rfl hm.s0 hm.o0 rfl rfl)) (Ct.mo rfl rfl) ?_
      refine DG.mv rfl rfl rfl rfl rfl rfl ?_
      refine DG.step (c := ⟨some 17, .ptr bx0 0, [(16, .ptr bx0 0)], [], []⟩) (fun t hm => One.step rfl (.free rfl) (OpT.nilCheck rfl (dl rfl rfl) hm.s0 rfl rfl)) (Ct.mo rfl rfl) ?_
      refine DG.step (c := ⟨some 18, .ptr bx0 (0 + 1), [(17, .ptr bx0 0)], [], []⟩) (fun t hm => One.step rfl (.free rfl) (OpT.fieldPtr rfl (dl rfl rfl) Tryd.underlying88 rfl i3 (by decide) hm.s0 rfl)) (Ct.mo rfl rfl) ?_
      refine DG.step (c := ⟨some 19, .int .i64 a, [(18, .ptr bx0 (0 + 1))], [(0, (o88 bx0 b a (f 0) l m p))], []⟩) (fun t hm => One.step rfl (.free rfl) (OpT.lB (i := 0) rfl (dl rfl rfl) Tryd.underlying3 rfl hm.s0 hm.o0 rfl rfl)) (Ct.mo rfl rfl) ?_
      obtain ⟨ai, h⟩ := ck_some h
      refine DG.step (c := ⟨some 20, .int .u8 (bt b a), [(15, .str b), (19, .int .i64 a)], [], []⟩) (fun t hm => One.step rfl (.free rfl) (OpT.indexStr rfl (dl rfl rfl) Tryd.underlying9 hm.s0 hm.s1 ai.1 ai.2 rfl)) (Ct.mo rfl rfl) ?_
      refine DG.step (c := ⟨some 6, .int .u8 (bt b a), [(20, .int .u8 (bt b a))], [], []⟩) (fun t hm => One.step rfl (.free rfl) (OpT.assign rfl (dl rfl rfl) hm.s0 rfl)) (Ct.mo rfl rfl) ?_
      refine DG.fin (s1 := ⟨[(0, .ptr bx0 0), (3, .int .i64 q), (4, .int .i64 (0 : Int)), (5, .int .i64 (-1 : Int)), (6, .int .u8 (bt b a))], [(o88 bx0 b a (f 0) l m p), .arrA (f 0) 42 9 ((v).map c_aNd)]⟩) (ms := [0, 1, 3, 7, 0, 16, 48, 112, 255, 511]) TrydMixed rfl (by kernel_rfl) (by kernel_rfl) (by kernel_rfl) (.cons rfl (.cons rfl (.cons rfl (.cons rfl (.cons rfl (.nil _)))))) rfl (fun u hu => (tN (T.by_turn hu ?_)))
      refine T.seq ?_
      refine T.block ?_
      refine T.seq ?_
      refine T.rL ?_
      refine mv rfl rfl rfl rfl rfl ?_
      refine sp rfl (OpT.int2 rfl rfl (dl rfl rfl) rfl rfl ?_)
      refine asg rfl rfl rfl rfl rfl ?_
      refine TL'.nil (tN ?_)
      rcases bif_some h with ⟨ac, h⟩ | ⟨ac, h⟩
      · refine T.condT rfl ac ?_
        refine T.rL ?_
        refine mv rfl rfl rfl rfl rfl ?_
        refine sp rfl (OpT.nilCheck rfl (dl rfl rfl) rfl rfl ?_)
        refine sp rfl (OpT.fieldPtr rfl (dl rfl rfl) Tryd.underlying88 rfl i3 (by decide) rfl ?_)
        refine sp rfl (OpT.lB (i := 0) rfl (dl rfl rfl) Tryd.underlying3 rfl rfl rfl rfl ?_)
        refine sp rfl (OpT.int2 rfl rfl (dl rfl rfl) rfl rfl ?_)
        refine sp rfl (OpT.nilCheck rfl (dl rfl rfl) rfl rfl ?_)
        refine sp rfl (OpT.fieldPtr rfl (dl rfl rfl) Tryd.underlying88 rfl i3 (by decide) rfl ?_)
        refine sp rfl (OpT.storeTo (i := 0) (cells' := [.d (.str b), .d (.int .i64 (wI (a + (1 : Int)))), .d (.ex (f 0)), .d (.int .i64 l), .d (.int .i64 m), .d (.int .i64 p)]) rfl rfl i3 rfl rfl rfl (Nat.le_of_ble_eq_true rfl) rfl ?_)
        refine TL'.nil (inBlock_normal (tN ?_))
        refine T.by_turn ?_ (r4r_item_j1_T K rec_r4r_alternative hrec_r4r_alternative bx0 (r4r_item_l0 K rec_r4r_alternative k) ih q (0 : Int) (-1 : Int) b (wI (a + (1 : Int))) l m p v (f 0) h)
        exact Turn.rp (.cons rfl (.cons rfl (.cons rfl (.cons rfl (.nil _))))) (.c .z (.c .z (.n _)))
      · refine T.condF rfl ac ?_
        refine T.seq ?_
        refine T.rL ?_
        refine mv rfl rfl rfl rfl rfl ?_
        refine sp rfl (OpT.int2 rfl rfl (dl rfl rfl) rfl rfl ?_)
        refine asg rfl rfl rfl rfl rfl ?_
        refine TL'.nil (tN ?_)
        rcases bif_some h with ⟨ad, h⟩ | ⟨ad, h⟩
        · refine T.condT rfl ad ?_
          refine T.seq ?_
          refine T.rL ?_
          refine asg rfl rfl rfl rfl rfl ?_
          refine TL'.nil (tN ?_)
          refine T.rL ?_
          refine mv rfl rfl rfl rfl rfl ?_
          refine sp rfl (OpT.nilCheck rfl (dl rfl rfl) rfl rfl ?_)
          refine sp rfl (OpT.fieldPtr rfl (dl rfl rfl) Tryd.underlying88 rfl i3 (by decide) rfl ?_)
          refine sp rfl (OpT.lB (i := 0) rfl (dl rfl rfl) Tryd.underlying3 rfl rfl rfl rfl ?_)
          refine sp rfl (OpT.int2 rfl rfl (dl rfl rfl) rfl rfl ?_)
          refine sp rfl (OpT.nilCheck rfl (dl rfl rfl) rfl rfl ?_)
          refine sp rfl (OpT.fieldPtr rfl (dl rfl rfl) Tryd.underlying88 rfl i3 (by decide) rfl ?_)
          refine sp rfl (OpT.storeTo (i := 0) (cells' := [.d (.str b), .d (.int .i64 (wI (a + (1 : Int)))), .d (.ex (f 0)), .d (.int .i64 l), .d (.int .i64 m), .d (.int .i64 p)]) rfl rfl i3 rfl rfl rfl (Nat.le_of_ble_eq_true rfl) rfl ?_)
          refine TL'.nil (inBlock_normal (tN ?_))
          refine T.by_turn ?_ (r4r_item_j1_T K rec_r4r_alternative hrec_r4r_alternative bx0 (r4r_item_l0 K rec_r4r_alternative k) ih q (1 : Int) (-1 : Int) b (wI (a + (1 : Int))) l m p v (f 0) h)
          exact Turn.rp (.cons rfl (.cons rfl (.cons rfl (.cons rfl (.nil _))))) (.c .z (.c .z (.n _)))
        · refine T.condF rfl ad ?_
          refine T.seq ?_
          refine T.rL ?_
          refine mv rfl rfl rfl rfl rfl ?_
          refine sp rfl (OpT.int2 rfl rfl (dl rfl rfl) rfl rfl ?_)
          refine asg rfl rfl rfl rfl rfl ?_
          refine TL'.nil (tN ?_)
          rcases bif_some h with ⟨af, h⟩ | ⟨af, h⟩
          · refine T.condT rfl af ?_
            refine T.seq ?_
            refine T.rL ?_
            refine asg rfl rfl rfl rfl rfl ?_
            refine TL'.nil (tN ?_)
            refine T.rL ?_
            refine mv rfl rfl rfl rfl rfl ?_
            refine sp rfl (OpT.nilCheck rfl (dl rfl rfl) rfl rfl ?_)
            refine sp rfl (OpT.fieldPtr rfl (dl rfl rfl) Tryd.underlying88 rfl i3 (by decide) rfl ?_)
            refine sp rfl (OpT.lB (i := 0) rfl (dl rfl rfl) Tryd.underlying3 rfl rfl rfl rfl ?_)
            refine sp rfl (OpT.int2 rfl rfl (dl rfl rfl) rfl rfl ?_)
            refine sp rfl (OpT.nilCheck rfl (dl rfl rfl) rfl rfl ?_)
            refine sp rfl (OpT.fieldPtr rfl (dl rfl rfl) Tryd.underlying88 rfl i3 (by decide) rfl ?_)
            refine sp rfl (OpT.storeTo (i := 0) (cells' := [.d (.str b), .d (.int .i64 (wI (a + (1 : Int)))), .d (.ex (f 0)), .d (.int .i64 l), .d (.int .i64 m), .d (.int .i64 p)]) rfl rfl i3 rfl rfl rfl (Nat.le_of_ble_eq_true rfl) rfl ?_)
            refine TL'.nil (inBlock_normal (tN ?_))
            refine T.by_turn ?_ (r4r_item_j1_T K rec_r4r_alternative hrec_r4r_alternative bx0 (r4r_item_l0 K rec_r4r_alternative k) ih q (0 : Int) (1 : Int) b (wI (a + (1 : Int))) l m p v (f 0) h)
            exact Turn.rp (.cons rfl (.cons rfl (.cons rfl (.cons rfl (.nil _))))) (.c .z (.c .z (.n _)))
          · refine T.condF rfl af ?_
            refine T.seq ?_
            refine DG.start ?_
            refine DG.mv rfl rfl rfl rfl rfl rfl ?_
            refine DG.step (c := ⟨some 54, .bool ((bt b a) == (123 : Int)), [(53, .int .u8 (bt b a))], [], []⟩) (fun t hm => One.step rfl (.free rfl) (OpT.int2 rfl rfl (dl rfl rfl) hm.s0 rfl rfl)) (Ct.mo rfl rfl) ?_
            refine DG.mv rfl rfl rfl rfl rfl rfl ?_
            rcases bif_some h with ⟨g, h⟩ | ⟨g, h⟩
            · refine DG.step (c := ⟨some 56, .ptr bx0 0, [(0, .ptr bx0 0), (55, .bool ((bt b a) == (123 : Int)))], [], []⟩) (fun t hm => One.step rfl (.on rfl rfl hm.s1 g) (OpT.move rfl (dl rfl rfl) hm.s0 rfl)) (Ct.mo rfl rfl) ?_
              refine DG.step (c := ⟨some 57, .ptr bx0 0, [(56, .ptr bx0 0), (55, .bool ((bt b a) == (123 : Int)))], [], []⟩) (fun t hm => One.step rfl (.on rfl rfl hm.s1 g) (OpT.nilCheck rfl (dl rfl rfl) hm.s0 rfl rfl)) (Ct.mo rfl rfl) ?_
              refine DG.step (c := ⟨some 58, .ptr bx0 (0 + 1), [(57, .ptr bx0 0), (55, .bool ((bt b a) == (123 : Int)))], [], []⟩) (fun t hm => One.step rfl (.on rfl rfl hm.s1 g) (OpT.fieldPtr rfl (dl rfl rfl) Tryd.underlying88 rfl i3 (by decide) hm.s0 rfl)) (Ct.mo rfl rfl) ?_
              refine DG.step (c := ⟨some 59, .int .i64 a, [(58, .ptr bx0 (0 + 1)), (55, .bool ((bt b a) == (123 : Int)))], [(0, (o88 bx0 b a (f 0) l m p))], []⟩) (fun t hm => One.step rfl (.on rfl rfl hm.s1 g) (OpT.lB (i := 0) rfl (dl rfl rfl) Tryd.underlying3 rfl hm.s0 hm.o0 rfl rfl)) (Ct.mo rfl rfl) ?_
              refine DG.step (c := ⟨some 60, .int .i64 (wI (a + (1 : Int))), [(59, .int .i64 a), (55, .bool ((bt b a) == (123 : Int)))], [], []⟩) (fun t hm => One.step rfl (.on rfl rfl hm.s1 g) (OpT.int2 rfl rfl (dl rfl rfl) hm.s0 rfl rfl)) (Ct.mo rfl rfl) ?_
              refine DG.step (c := ⟨some 61, .ptr bx0 0, [(0, .ptr bx0 0), (55, .bool ((bt b a) == (123 : Int)))], [], []⟩) (fun t hm => One.step rfl (.on rfl rfl hm.s1 g) (OpT.move rfl (dl rfl rfl) hm.s0 rfl)) (Ct.mo rfl rfl) ?_
              refine DG.step (c := ⟨some 62, .ptr bx0 0, [(61, .ptr bx0 0), (55, .bool ((bt b a) == (123 : Int)))], [], []⟩) (fun t hm => One.step rfl (.on rfl rfl hm.s1 g) (OpT.nilCheck rfl (dl rfl rfl) hm.s0 rfl rfl)) (Ct.mo rfl rfl) ?_
              refine DG.step (c := ⟨some 63, .ptr bx0 (0 + 0), [(62, .ptr bx0 0), (55, .bool ((bt b a) == (123 : Int)))], [], []⟩) (fun t hm => One.step rfl (.on rfl rfl hm.s1 g) (OpT.fieldPtr rfl (dl rfl rfl) Tryd.underlying88 rfl i9 (by decide) hm.s0 rfl)) (Ct.mo rfl rfl) ?_
              refine DG.step (c := ⟨some 64, .str b, [(63, .ptr bx0 (0 + 0)), (55, .bool ((bt b a) == (123 : Int)))], [(0, (o88 bx0 b a (f 0) l m p))], []⟩) (fun t hm => One.step rfl (.on rfl rfl hm.s1 g) (OpT.lB (i := 0) rfl (dl rfl rfl) Tryd.underlying9 rfl hm.s0 hm.o0 rfl rfl)) (Ct.mo rfl rfl) ?_
              refine DG.step (c := ⟨some 65, .int .i64 ((b).size : Int), [(64, .str b), (55, .bool ((bt b a) == (123 : Int)))], [], []⟩) (fun t hm => One.step rfl (.on rfl rfl hm.s1 g) (OpT.lenStr rfl (dl rfl rfl) Tryd.underlying9 hm.s0 rfl)) (Ct.mo rfl rfl) ?_
              refine DG.step (c := ⟨some 66, .bool (decide ((wI (a + (1 : Int))) < ((b).size : Int))), [(60, .int .i64 (wI (a + (1 : Int)))), (65, .int .i64 ((b).size : Int)), (55, .bool ((bt b a) == (123 : Int)))], [], []⟩) (fun t hm => One.step rfl (.on rfl rfl hm.s2 g) (OpT.int2 rfl rfl (dl rfl rfl) hm.s0 hm.s1 rfl)) (Ct.mo rfl rfl) ?_
              refine DG.step (c := ⟨some 67, .bool (decide ((wI (a + (1 : Int))) < ((b).size : Int))), [(55, .bool ((bt b a) == (123 : Int))), (66, .bool (decide ((wI (a + (1 : Int))) < ((b).size : Int))))], [], []⟩) (fun t hm => One.step rfl (.free rfl) (OpT.pickT rfl (dl rfl rfl) hm.s0 g hm.s1 rfl)) (Ct.mo rfl rfl) ?_
              refine DG.mv rfl rfl rfl rfl rfl rfl ?_
              rcases bif_some h with ⟨j, h⟩ | ⟨j, h⟩
              · refine DG.step (c := ⟨some 69, .ptr bx0 0, [(0, .ptr bx0 0), (68, .bool (decide ((wI (a + (1 : Int))) < ((b).size : Int))))], [], []⟩) (fun t hm => One.step rfl (.on rfl rfl hm.s1 j) (OpT.move rfl (dl rfl rfl) hm.s0 rfl)) (Ct.mo rfl rfl) ?_
                refine DG.step (c := ⟨some 70, .ptr bx0 0, [(69, .ptr bx0 0), (68, .bool (decide ((wI (a + (1 : Int))) < ((b).size : Int))))], [], []⟩) (fun t hm => One.step rfl (.on rfl rfl hm.s1 j) (OpT.nilCheck rfl (dl rfl rfl) hm.s0 rfl rfl)) (Ct.mo rfl rfl) ?_
                refine DG.step (c := ⟨some 71, .ptr bx0 (0 + 0), [(70, .ptr bx0 0), (68, .bool (decide ((wI (a + (1 : Int))) < ((b).size : Int))))], [], []⟩) (fun t hm => One.step rfl (.on rfl rfl hm.s1 j) (OpT.fieldPtr rfl (dl rfl rfl) Tryd.underlying88 rfl i9 (by decide) hm.s0 rfl)) (Ct.mo rfl rfl) ?_
                refine DG.step (c := ⟨some 72, .str b, [(71, .ptr bx0 (0 + 0)), (68, .bool (decide ((wI (a + (1 : Int))) < ((b).size : Int))))], [(0, (o88 bx0 b a (f 0) l m p))], []⟩) (fun t hm => One.step rfl (.on rfl rfl hm.s1 j) (OpT.lB (i := 0) rfl (dl rfl rfl) Tryd.underlying9 rfl hm.s0 hm.o0 rfl rfl)) (Ct.mo rfl rfl) ?_
                refine DG.step (c := ⟨some 73, .ptr bx0 0, [(0, .ptr bx0 0), (68, .bool (decide ((wI (a + (1 : Int))) < ((b).size : Int))))], [], []⟩) (fun t hm => One.step rfl (.on rfl rfl hm.s1 j) (OpT.move rfl (dl rfl rfl) hm.s0 rfl)) (Ct.mo rfl rfl) ?_
                refine DG.step (c := ⟨some 74, .ptr bx0 0, [(73, .ptr bx0 0), (68, .bool (decide ((wI (a + (1 : Int))) < ((b).size : Int))))], [], []⟩) (fun t hm => One.step rfl (.on rfl rfl hm.s1 j) (OpT.nilCheck rfl (dl rfl rfl) hm.s0 rfl rfl)) (Ct.mo rfl rfl) ?_
                refine DG.step (c := ⟨some 75, .ptr bx0 (0 + 1), [(74, .ptr bx0 0), (68, .bool (decide ((wI (a + (1 : Int))) < ((b).size : Int))))], [], []⟩) (fun t hm => One.step rfl (.on rfl rfl hm.s1 j) (OpT.fieldPtr rfl (dl rfl rfl) Tryd.underlying88 rfl i3 (by decide) hm.s0 rfl)) (Ct.mo rfl rfl) ?_
                refine DG.step (c := ⟨some 76, .int .i64 a, [(75, .ptr bx0 (0 + 1)), (68, .bool (decide ((wI (a + (1 : Int))) < ((b).size : Int))))], [(0, (o88 bx0 b a (f 0) l m p))], []⟩) (fun t hm => One.step rfl (.on rfl rfl hm.s1 j) (OpT.lB (i := 0) rfl (dl rfl rfl) Tryd.underlying3 rfl hm.s0 hm.o0 rfl rfl)) (Ct.mo rfl rfl) ?_
                refine DG.step (c := ⟨some 77, .int .i64 (wI (a + (1 : Int))), [(76, .int .i64 a), (68, .bool (decide ((wI (a + (1 : Int))) < ((b).size : Int))))], [], []⟩) (fun t hm => One.step rfl (.on rfl rfl hm.s1 j) (OpT.int2 rfl rfl (dl rfl rfl) hm.s0 rfl rfl)) (Ct.mo rfl rfl) ?_
                obtain ⟨aj, h⟩ := ck_some h
                refine DG.step (c := ⟨some 78, .int .u8 (bt b (wI (a + (1 : Int)))), [(72, .str b), (77, .int .i64 (wI (a + (1 : Int)))), (68, .bool (decide ((wI (a + (1 : Int))) < ((b).size : Int))))], [], []⟩) (fun t hm => One.step rfl (.on rfl rfl hm.s2 j) (OpT.indexStr rfl (dl rfl rfl) Tryd.underlying9 hm.s0 hm.s1 aj.1 aj.2 rfl)) (Ct.mo rfl rfl) ?_
                obtain ⟨y, am, h⟩ := bind_some h
                refine DG.step (c := ⟨some 79, .bool y, [(78, .int .u8 (bt b (wI (a + (1 : Int))))), (68, .bool (decide ((wI (a + (1 : Int))) < ((b).size : Int))))], [], []⟩) (fun t hm => One.step rfl (.on rfl rfl hm.s1 j) (OpT.callPA rfl (dl rfl rfl) Tryd.func81 rfl rfl (Args.cons hm.s0 Args.nil) (CallR.nil (r4_digit_T K am)) rfl)) (Ct.mo rfl rfl) ?_
                refine DG.step (c := ⟨some 80, .bool y, [(68, .bool (decide ((wI (a + (1 : Int))) < ((b).size : Int)))), (79, .bool y)], [], []⟩) (fun t hm => One.step rfl (.free rfl) (OpT.pickT rfl (dl rfl rfl) hm.s0 j hm.s1 rfl)) (Ct.mo rfl rfl) ?_
                refine DG.step (c := ⟨some 52, .bool y, [(80, .bool y)], [], []⟩) (fun t hm => One.step rfl (.free rfl) (OpT.assign rfl (dl rfl rfl) hm.s0 rfl)) (Ct.mo rfl rfl) ?_
                refine DG.fin (s1 := ⟨[(0, .ptr bx0 0), (3, .int .i64 q), (52, .bool y), (56, .ptr bx0 0), (57, .ptr bx0 0), (58, .ptr bx0 (0 + 1)), (59, .int .i64 a), (60, .int .i64 (wI (a + (1 : Int)))), (61, .ptr bx0 0), (62, .ptr bx0 0), (63, .ptr bx0 (0 + 0)), (64, .str b), (65, .int .i64 ((b).size : Int)), (66, .bool (decide ((wI (a + (1 : Int))) < ((b).size : Int)))), (69, .ptr bx0 0), (70, .ptr bx0 0), (71, .ptr bx0 (0 + 0)), (72, .str b), (73, .ptr bx0 0), (74, .ptr bx0 0), (75, .ptr bx0 (0 + 1)), (76, .int .i64 a), (77, .int .i64 (wI (a + (1 : Int)))), (78, .int .u8 (bt b (wI (a + (1 : Int))))), (79, .bool y)], [(o88 bx0 b a (f 0) l m p), .arrA (f 0) 42 9 ((v).map c_aNd)]⟩) (ms := [0, 1, 3, 7, 15, 31, 63, 127, 7, 263, 775, 1799, 3847, 8191, 16383, 32767, 65535, 131071, 262143, 524287, 65535, 1114111, 3211263, 7405567, 15794175, 33554431, 67108863, 134217727, 268435455]) TrydMixed rfl (by kernel_rfl) (by kernel_rfl) (by kernel_rfl) (.cons rfl (.cons rfl (.cons rfl (.cons rfl (.cons rfl (.cons rfl (.cons rfl (.cons rfl (.cons rfl (.cons rfl (.cons rfl (.cons rfl (.cons rfl (.cons rfl (.cons rfl (.cons rfl (.cons rfl (.cons rfl (.cons rfl (.cons rfl (.cons rfl (.cons rfl (.cons rfl (.cons rfl (.cons rfl (.nil _)))))))))))))))))))))))))) rfl (fun u hu => (tN (T.by_turn hu ?_)))
                rcases bif_some h with ⟨ag, h⟩ | ⟨ag, h⟩
                · refine T.condT rfl ag ?_
                  refine T.rL ?_
                  refine mv rfl rfl rfl rfl rfl ?_
                  obtain ⟨w, an, h⟩ := bind_some h
                  refine sp rfl (OpT.callG (is := [0, 1]) (ph := []) rfl (dl rfl rfl) Tryd.func91 rfl rfl (Args.cons rfl Args.nil) (r4r_bounds_T K (bx0 := bx0) (wx0c2 := (f 0)) an) (.cons rfl rfl (.cons rfl rfl (.nil))) (fun _ => rfl) (fun ap => ?_))
                  refine nm (.c (.c (.n))) ?_
                  refine mv rfl rfl rfl rfl rfl ?_
                  refine sp rfl (OpT.extract rfl (dl rfl rfl) rfl rfl ?_)
                  refine sp rfl (OpT.extract rfl (dl rfl rfl) rfl rfl ?_)
                  refine asg rfl rfl rfl rfl rfl ?_
                  refine asg rfl rfl rfl rfl rfl ?_
                  refine TL'.nil (inBlock_normal (tN ?_))
                  refine T.by_turn ?_ (r4r_item_j1_T K rec_r4r_alternative hrec_r4r_alternative bx0 (r4r_item_l0 K rec_r4r_alternative k) ih q w.1 w.2.1 w.2.2.s w.2.2.at_ w.2.2.deep w.2.2.e w.2.2.where_ w.2.2.nodes (ap 0) h)
                  exact Turn.rp (.cons rfl (.cons rfl (.cons rfl (.cons rfl (.nil _))))) (.c .z (.c .z (.n _)))
                · refine T.condF rfl ag ?_
                  refine T.by_turn ?_ (r4r_item_j2_T K rec_r4r_alternative hrec_r4r_alternative bx0 q b a l m p v (f 0) h)
                  exact Turn.rp (.cons rfl (.nil _)) (.c .z (.c .z (.n _)))
              · refine DG.off j rfl rfl rfl rfl rfl rfl ?_
                refine DG.off j rfl rfl rfl rfl rfl rfl ?_
                refine DG.off j rfl rfl rfl rfl rfl rfl ?_
                refine DG.off j rfl rfl rfl rfl rfl rfl ?_
                refine DG.off j rfl rfl rfl rfl rfl rfl ?_
                refine DG.off j rfl rfl rfl rfl rfl rfl ?_
                refine DG.off j rfl rfl rfl rfl rfl rfl ?_
                refine DG.off j rfl rfl rfl rfl rfl rfl ?_
                refine DG.off j rfl rfl rfl rfl rfl rfl ?_
                refine DG.off j rfl rfl rfl rfl rfl rfl ?_
                refine DG.off j rfl rfl rfl rfl rfl rfl ?_
                refine DG.step (c := ⟨some 80, .bool false, [(68, .bool (decide ((wI (a + (1 : Int))) < ((b).size : Int))))], [], []⟩) (fun t hm => One.step rfl (.free rfl) (OpT.pickF rfl (dl rfl rfl) hm.s0 j rfl rfl)) (Ct.mo rfl rfl) ?_
                refine DG.step (c := ⟨some 52, .bool false, [(80, .bool false)], [], []⟩) (fun t hm => One.step rfl (.free rfl) (OpT.assign rfl (dl rfl rfl) hm.s0 rfl)) (Ct.mo rfl rfl) ?_
                refine DG.fin (s1 := ⟨[(0, .ptr bx0 0), (3, .int .i64 q), (52, .bool false), (56, .ptr bx0 0), (57, .ptr bx0 0), (58, .ptr bx0 (0 + 1)), (59, .int .i64 a), (60, .int .i64 (wI (a + (1 : Int)))), (61, .ptr bx0 0), (62, .ptr bx0 0), (63, .ptr bx0 (0 + 0)), (64, .str b), (65, .int .i64 ((b).size : Int)), (66, .bool (decide ((wI (a + (1 : Int))) < ((b).size : Int)))), (69, .tup []), (70, .tup []), (71, .tup []), (72, .tup []), (73, .tup []), (74, .tup []), (75, .tup []), (76, .tup []), (77, .tup []), (78, .tup []), (79, .tup [])], [(o88 bx0 b a (f 0) l m p), .arrA (f 0) 42 9 ((v).map c_aNd)]⟩) (ms := [0, 1, 3, 7, 15, 31, 63, 127, 7, 263, 775, 1799, 3847, 8191, 16383, 32767, 65535, 131071, 262143, 524287, 65535, 1114111, 3211263, 7405567, 15794175, 33554431, 67108863, 134217727, 268435455]) TrydMixed rfl (by kernel_rfl) (by kernel_rfl) (by kernel_rfl) (.cons rfl (.cons rfl (.cons rfl (.cons rfl (.cons rfl (.cons rfl (.cons rfl (.cons rfl (.cons rfl (.cons rfl (.cons rfl (.cons rfl (.cons rfl (.cons rfl (.cons rfl (.cons rfl (.cons rfl (.cons rfl (.cons rfl (.cons rfl (.cons rfl (.cons rfl (.cons rfl (.cons rfl (.cons rfl (.nil _)))))))))))))))))))))))))) rfl (fun u hu => (tN (T.by_turn hu ?_)))
                refine T.condF rfl rfl ?_
                refine T.by_turn ?_ (r4r_item_j2_T K rec_r4r_alternative hrec_r4r_alternative bx0 q b a l m p v (f 0) h)
                exact Turn.rp (.cons rfl (.nil _)) (.c .z (.c .z (.n _)))
            · refine DG.off g rfl rfl rfl rfl rfl rfl ?_
              refine DG.off g rfl rfl rfl rfl rfl rfl ?_
              refine DG.off g rfl rfl rfl rfl rfl rfl ?_
              refine DG.off g rfl rfl rfl rfl rfl rfl ?_
              refine DG.off g rfl rfl rfl rfl rfl rfl ?_
              refine DG.off g rfl rfl rfl rfl rfl rfl ?_
              refine DG.off g rfl rfl rfl rfl rfl rfl ?_
              refine DG.off g rfl rfl rfl rfl rfl rfl ?_
              refine DG.off g rfl rfl rfl rfl rfl rfl ?_
              refine DG.off g rfl rfl rfl rfl rfl rfl ?_
              refine DG.off g rfl rfl rfl rfl rfl rfl ?_
              refine DG.step (c := ⟨some 67, .bool false, [(55, .bool ((bt b a) == (123 : Int)))], [], []⟩) (fun t hm => One.step rfl (.free rfl) (OpT.pickF rfl (dl rfl rfl) hm.s0 g rfl rfl)) (Ct.mo rfl rfl) ?_
              refine DG.mv rfl rfl rfl rfl rfl rfl ?_
              refine DG.off rfl rfl rfl rfl rfl rfl rfl ?_
              refine DG.off rfl rfl rfl rfl rfl rfl rfl ?_
              refine DG.off rfl rfl rfl rfl rfl rfl rfl ?_
              refine DG.off rfl rfl rfl rfl rfl rfl rfl ?_
              refine DG.off rfl rfl rfl rfl rfl rfl rfl ?_
              refine DG.off rfl rfl rfl rfl rfl rfl rfl ?_
              refine DG.off rfl rfl rfl rfl rfl rfl rfl ?_
              refine DG.off rfl rfl rfl rfl rfl rfl rfl ?_
              refine DG.off rfl rfl rfl rfl rfl rfl rfl ?_
              refine DG.off rfl rfl rfl rfl rfl rfl rfl ?_
              refine DG.off rfl rfl rfl rfl rfl rfl rfl ?_
              refine DG.step (c := ⟨some 80, .bool false, [(68, .bool false)], [], []⟩) (fun t hm => One.step rfl (.free rfl) (OpT.pickF rfl (dl rfl rfl) hm.s0 rfl rfl rfl)) (Ct.mo rfl rfl) ?_
              refine DG.step (c := ⟨some 52, .bool false, [(80, .bool false)], [], []⟩) (fun t hm => One.step rfl (.free rfl) (OpT.assign rfl (dl rfl rfl) hm.s0 rfl)) (Ct.mo rfl rfl) ?_
              refine DG.fin (s1 := ⟨[(0, .ptr bx0 0), (3, .int .i64 q), (52, .bool false), (56, .tup []), (57, .tup []), (58, .tup []), (59, .tup []), (60, .tup []), (61, .tup []), (62, .tup []), (63, .tup []), (64, .tup []), (65, .tup []), (66, .tup []), (69, .tup []), (70, .tup []), (71, .tup []), (72, .tup []), (73, .tup []), (74, .tup []), (75, .tup []), (76, .tup []), (77, .tup []), (78, .tup []), (79, .tup [])], [(o88 bx0 b a (f 0) l m p), .arrA (f 0) 42 9 ((v).map c_aNd)]⟩) (ms := [0, 1, 3, 7, 15, 31, 63, 127, 7, 263, 775, 1799, 3847, 8191, 16383, 32767, 65535, 131071, 262143, 524287, 65535, 1114111, 3211263, 7405567, 15794175, 33554431, 67108863, 134217727, 268435455]) TrydMixed rfl (by kernel_rfl) (by kernel_rfl) (by kernel_rfl) (.cons rfl (.cons rfl (.cons rfl (.cons rfl (.cons rfl (.cons rfl (.cons rfl (.cons rfl (.cons rfl (.cons rfl (.cons rfl (.cons rfl (.cons rfl (.cons rfl (.cons rfl (.cons rfl (.cons rfl (.cons rfl (.cons rfl (.cons rfl (.cons rfl (.cons rfl (.cons rfl (.cons rfl (.cons rfl (.nil _)))))))))))))))))))))))))) rfl (fun u hu => (tN (T.by_turn hu ?_)))
              refine T.condF rfl rfl ?_
              refine T.by_turn ?_ (r4r_item_j2_T K rec_r4r_alternative hrec_r4r_alternative bx0 q b a l m p v (f 0) h)
              exact Turn.rp (.cons rfl (.nil _)) (.c .z (.c .z (.n _)))
    · refine T.condF rfl ab ?_
      refine T.exit (thenS_exit (thenS_exit (inBlock_exit (tN ?_))))
      refine T.seq ?_
      refine T.rL ?_
      refine mv rfl rfl rfl rfl rfl ?_
      refine asg rfl rfl rfl rfl rfl ?_
      refine TL'.nil (tN ?_)
      refine T.ret ?_
      exact Fin.doneK (.cons _ _ _ _ (.tmp 2 _ rfl) .nil) (.cons 0 rfl (.cons 0 rfl (.nil _))) (by cases h; exact ⟨gl [f 0], rfl, rfl⟩)
theorem r4r_item_T (K : Nat) (rec_r4r_alternative : r4r → Option (Int × r4r)) (hrec_r4r_alternative : r4r_alternative_S rec_r4r_alternative) {x0 : r4r} {bx0 : Nat} {wx0c2 : Value} {r : Int × r4r} (h : r4r_item K rec_r4r_alternative x0 = some r) : CallG Tryd.prog 82 [.ptr bx0 0] [(o88 bx0 x0.s x0.at_ wx0c2 x0.deep x0.e x0.where_), .arrA wx0c2 42 9 (x0.nodes.map c_aNd)] (fun γ => (.int .i64 r.1)) (fun γ => [(o88 bx0 r.2.s r.2.at_ (γ 0) r.2.deep r.2.e r.2.where_), .arrA (γ 0) 42 9 (r.2.nodes.map c_aNd)]) := by
 refine CallT.intro Tryd.func82 rfl (nb rfl) ?_
 show T Tryd.prog 99 (Code.at [] (codeOf Tryd.f82)) ⟨paramSlots 0 [.ptr bx0 0], [(o88 bx0 x0.s x0.at_ wx0c2 x0.deep x0.e x0.where_), .arrA wx0c2 42 9 (x0.nodes.map c_aNd)]⟩ (r4r_item_q bx0 r)
 unfold r4r_item at h
 refine T.seq (T.rL ?_)
 refine aw rfl ?_
 refine TL'.nil (tN (T.seq (T.rL ?_)))
 refine mw rfl ?_
 obtain ⟨a, b, h⟩ := bind_some h
 refine sp rfl (OpT.callG (is := [0, 1]) (ph := []) rfl (dk rfl) Tryd.func90 rfl rfl (Args.cons rfl Args.nil) (r4r_atom_T K rec_r4r_alternative hrec_r4r_alternative (bx0 := bx0) (wx0c2 := wx0c2) b) (.cons rfl rfl (.cons rfl rfl (.nil))) (fun _ => rfl) (fun d => ?_))
 refine nm (.c (.c (.n))) ?_
 refine aw rfl ?_
 refine TL'.nil (tN ?_)
 refine T.seq ?_
 refine T.block ?_
 refine T.loop ?_
 refine TL.by_turn ?_ (r4r_item_l0_T K rec_r4r_alternative hrec_r4r_alternative bx0 K a.1 a.2.s a.2.at_ a.2.deep a.2.e a.2.where_ a.2.nodes (d 0) h)
 exact Turn.rp (.cons rfl (.cons rfl (.nil _))) (.c .z (.c .z (.n _)))
abbrev r4r_row_q (bx0 : Nat) (r : Int × r4r) : Exit → St → Prop := retS Tryd.prog Tryd.f64 (fun y t => ∃ γ : Nat → Value, y = (.int .i64 r.1) ∧ t = [(o88 bx0 r.2.s r.2.at_ (γ 0) r.2.deep r.2.e r.2.where_), .arrA (γ 0) 42 9 (r.2.nodes.map c_aNd)])
abbrev r4r_row_qs111 (bx0 : Nat) (r : Int × r4r) : Exit → St → Prop := thenS (fun s' => T Tryd.prog 57 (Code.at [1, 1, 1] (codeOf Tryd.f64)) s' ((r4r_row_q bx0 r))) ((r4r_row_q bx0 r))
abbrev r4r_row_qb0x111 (bx0 : Nat) (r : Int × r4r) : Exit → St → Prop := inBlockS 0 ((r4r_row_qs111 bx0 r))
abbrev r4r_row_ql1100 (bx0 : Nat) (r : Int × r4r) : Exit → St → Prop := thenS (fun s' => TL Tryd.prog 57 (Code.at [1, 1, 0, 0, 0] (codeOf Tryd.f64)) s' ((r4r_row_qb0x111 bx0 r))) ((r4r_row_qb0x111 bx0 r))
abbrev r4r_row_qs110001 (bx0 : Nat) (r : Int × r4r) : Exit → St → Prop := thenS (fun s' => T Tryd.prog 57 (Code.at [1, 1, 0, 0, 0, 1] (codeOf Tryd.f64)) s' ((r4r_row_ql1100 bx0 r))) ((r4r_row_ql1100 bx0 r))
theorem r4r_row_j1_T {r : Int × r4r} (K : Nat) (rec_r4r_alternative : r4r → Option (Int × r4r)) (hrec_r4r_alternative : r4r_alternative_S rec_r4r_alternative) (bx0 : Nat) (p : ByteArray) (q : Int) (s : Int) (u : Int) (w : Int) (y : List aNd) (a : List Int) (b : Value) (d : Value) (h : r4r_row_j1 K rec_r4r_alternative p q s u w y a = some r) : T Tryd.prog 57 (Code.at [1, 1, 0, 0, 0, 0, 1, 1] (codeOf Tryd.f64)) ⟨[(0, .ptr bx0 0), (3, .c (.ex d))], [(o88 bx0 p q b s u w), .arrA b 42 9 (y.map c_aNd), .arrA d 3 1 (a.map (cI .i64))]⟩ (r4r_row_qs110001 bx0 r) := by
 unfold r4r_row_j1 at h
 refine T.exit (thenS_exit (thenS_exit (inBlock_exit (tN ?_))))
 refine T.seq ?_
 refine T.seq (T.rL ?_)
 refine mw rfl ?_
 refine sp rfl (OpT.nilCheck rfl (dk rfl) rfl rfl ?_)
 refine sp rfl (OpT.fieldPtr rfl (dk rfl) ul88 rfl i35 (by decide) rfl ?_)
 refine sp rfl (OpT.lB (i := 0) rfl (dk rfl) ul35 rfl rfl rfl rfl ?_)
 refine sp rfl (OpT.int2 rfl rfl (dk rfl) rfl rfl ?_)
 refine TL'.nil (tN ?_)
 rcases bif_some h with ⟨g, h⟩ | ⟨g, h⟩
 refine T.condT rfl g ?_
 refine T.seq (T.rL ?_)
 refine aw rfl ?_
 refine TL'.nil (tN ?_)
 refine T.ret (thenS_ret ?_)
 exact Fin.doneK (.cons _ _ _ _ (.tmp 2 _ rfl) .nil) (.cons 0 rfl (.cons 0 rfl (.nil _))) (by cases h; exact ⟨gl [b], rfl, rfl⟩)
 refine T.condF rfl g ?_
 refine T.skip (tN ?_)
 refine T.seq ?_
 refine T.seq (T.rL ?_)
 refine mw rfl ?_
 refine sp rfl (OpT.lenAM (i := 2) (xs := a) (f := (cI .i64)) rfl (dk rfl) ul40 rfl rfl ?_)
 refine sp rfl (OpT.int2 rfl rfl (dk rfl) rfl rfl ?_)
 refine TL'.nil (tN ?_)
 rcases bif_some h with ⟨j, h⟩ | ⟨j, h⟩
 refine T.condT rfl j ?_
 refine T.seq (T.rL ?_)
 refine mw rfl ?_
 refine sp rfl (OpT.thenTurn (OpT.build (l := [.int .u8 (1 : Int), .int .u64 (Arr4.mk 0 0 0 0).a0, .int .u64 (Arr4.mk 0 0 0 0).a1, .int .u64 (Arr4.mk 0 0 0 0).a2, .int .u64 (Arr4.mk 0 0 0 0).a3, .ex (.slice none 0 0), .int .i64 (0 : Int), .int .i64 (0 : Int), .str (⟨#[]⟩ : ByteArray)]) rfl (dk rfl) (built_struct (pl := [(0, 1), (1, 4), (5, 1), (6, 1), (7, 1), (8, 1)]) ul42 i42 rfl) (all1 rfl) rfl rfl rfl) (Turn.weakSlotP 45 (l := [.int .u8 (1 : Int), .int .u64 (Arr4.mk 0 0 0 0).a0, .int .u64 (Arr4.mk 0 0 0 0).a1, .int .u64 (Arr4.mk 0 0 0 0).a2, .int .u64 (Arr4.mk 0 0 0 0).a3, .ex (.slice none 0 0), .int .i64 (0 : Int), .int .i64 (0 : Int), .str (⟨#[]⟩ : ByteArray)]) (l' := [.int .u8 (1 : Int), .int .u64 (Arr4.mk 0 0 0 0).a0, .int .u64 (Arr4.mk 0 0 0 0).a1, .int .u64 (Arr4.mk 0 0 0 0).a2, .int .u64 (Arr4.mk 0 0 0 0).a3, .sl false 1 (([] : List Int).map (cI .i64)), .int .i64 (0 : Int), .int .i64 (0 : Int), .str (⟨#[]⟩ : ByteArray)]) (.cons (.same _) (.cons (.same _) (.cons (.same _) (.cons (.same _) (.cons (.same _) (.cons (.nil _ _) (.cons (.same _) (.cons (.same _) (.cons (.same _) (.refl _))))))))))) ?_)
 obtain ⟨ag, z, h⟩ := bind_some h
 refine sp rfl (OpT.callG (is := [0, 1]) (ph := []) rfl (dk rfl) Tryd.func65 rfl rfl (Args.cons rfl (Args.cons rfl Args.nil)) (r4r_put_T K (bx0 := bx0) (wx0c2 := b) z) (.cons rfl rfl (.cons rfl rfl (.nil))) (fun _ => rfl) (fun aa => ?_))
 refine nm (.c (.c (.c (.n)))) ?_
 refine aw rfl ?_
 refine TL'.nil (tN ?_)
 refine T.ret (thenS_ret ?_)
 exact Fin.doneK (.cons _ _ _ _ (.tmp 2 _ rfl) .nil) (.cons 0 rfl (.cons 0 rfl (.nil _))) (by cases h; exact ⟨gl [aa 0], rfl, rfl⟩)
 refine T.condF rfl j ?_
 refine T.skip (tN ?_)
 refine T.seq ?_
 refine T.seq (T.rL ?_)
 refine mw rfl ?_
 refine sp rfl (OpT.lenAM (i := 2) (xs := a) (f := (cI .i64)) rfl (dk rfl) ul40 rfl rfl ?_)
 refine sp rfl (OpT.int2 rfl rfl (dk rfl) rfl rfl ?_)
 refine TL'.nil (tN ?_)
 rcases bif_some h with ⟨m, h⟩ | ⟨m, h⟩
 refine T.condT rfl m ?_
 refine T.seq (T.rL ?_)
 refine mw rfl ?_
 refine TL'.turn (Turn.view 50 2 rfl rfl) ?_
 obtain ⟨ab, ac, h⟩ := bind_some h
 refine sp rfl (OpT.indexSlM (xs := a) (f := (cI .i64)) (v := ab) rfl (dk rfl) ul40 i3 rfl rfl ac ?_)
 refine sp rfl (OpT.loadRef rfl (dk rfl) ul3 rfl rfl rfl ?_)
 refine aw rfl ?_
 refine TL'.nil (tN ?_)
 refine T.ret (thenS_ret ?_)
 exact Fin.doneK (.cons _ _ _ _ (.tmp 2 _ rfl) .nil) (.cons 0 rfl (.cons 0 rfl (.nil _))) (by cases h; exact ⟨gl [b], rfl, rfl⟩)
 refine T.condF rfl m ?_
 refine T.skip (tN ?_)
 refine T.seq (T.rL ?_)
 refine mw rfl ?_
 refine mw rfl ?_
 refine sp rfl (OpT.thenTurn (OpT.build (l := [.int .u8 (3 : Int), .int .u64 (Arr4.mk 0 0 0 0).a0, .int .u64 (Arr4.mk 0 0 0 0).a1, .int .u64 (Arr4.mk 0 0 0 0).a2, .int .u64 (Arr4.mk 0 0 0 0).a3, .ex d, .int .i64 (0 : Int), .int .i64 (0 : Int), .str (⟨#[]⟩ : ByteArray)]) rfl (dk rfl) (built_struct (pl := [(0, 1), (1, 4), (5, 1), (6, 1), (7, 1), (8, 1)]) ul42 i42 rfl) (all1 rfl) rfl rfl rfl) (Turn.weakSlotP 55 (l := [.int .u8 (3 : Int), .int .u64 (Arr4.mk 0 0 0 0).a0, .int .u64 (Arr4.mk 0 0 0 0).a1, .int .u64 (Arr4.mk 0 0 0 0).a2, .int .u64 (Arr4.mk 0 0 0 0).a3, .ex d, .int .i64 (0 : Int), .int .i64 (0 : Int), .str (⟨#[]⟩ : ByteArray)]) (l' := [.int .u8 (3 : Int), .int .u64 (Arr4.mk 0 0 0 0).a0, .int .u64 (Arr4.mk 0 0 0 0).a1, .int .u64 (Arr4.mk 0 0 0 0).a2, .int .u64 (Arr4.mk 0 0 0 0).a3, .sl false 1 (a.map (cI .i64)), .int .i64 (0 : Int), .int .i64 (0 : Int), .str (⟨#[]⟩ : ByteArray)]) (.cons (.same _) (.cons (.same _) (.cons (.same _) (.cons (.same _) (.cons (.same _) (.cons (.view 2 rfl) (.cons (.same _) (.cons (.same _) (.cons (.same _) (.refl _))))))))))) ?_)
 obtain ⟨ai, ad, h⟩ := bind_some h
 refine sp rfl (OpT.callG (is := [0, 1]) (ph := []) rfl (dk rfl) Tryd.func65 rfl rfl (Args.cons rfl (Args.cons rfl Args.nil)) (r4r_put_T K (bx0 := bx0) (wx0c2 := b) ad) (.cons rfl rfl (.cons rfl rfl (.nil))) (fun _ => rfl) (fun af => ?_))
 refine nm (.c (.c (.c (.n)))) ?_
 refine aw rfl ?_
 refine TL'.nil (tN ?_)
 refine T.ret ?_
 exact Fin.doneK (.cons _ _ _ _ (.tmp 2 _ rfl) .nil) (.cons 0 rfl (.cons 0 rfl (.nil _))) (by cases h; exact ⟨gl [af 0], rfl, rfl⟩)
theorem r4r_row_l0_T {r : Int × r4r} (K : Nat) (rec_r4r_alternative : r4r → Option (Int × r4r)) (hrec_r4r_alternative : r4r_alternative_S rec_r4r_alternative) (bx0 : Nat) : ∀ (k : Nat), ∀ (b : ByteArray) (d : Int) (p : Int) (q : Int) (v : Int) (y : List aNd) (aa : List Int) (ac : Value) (w : Value), r4r_row_l0 K rec_r4r_alternative k b d p q v y aa = some r → TL Tryd.prog 57 (Code.at [1, 1, 0, 0, 0] (codeOf Tryd.f64)) ⟨[(0, .ptr bx0 0), (3, .c (.ex w))], [(o88 bx0 b d ac p q v), .arrA ac 42 9 (y.map c_aNd), .arrA w 3 1 (aa.map (cI .i64))]⟩ (r4r_row_qb0x111 bx0 r) := by
  intro k
  induction k with
  | zero =>
    intro b d p q v y aa ac w h
    cases (show (none : Option (Int × r4r)) = some r from h)
  | succ k ih =>
    intro b d p q v y aa ac w h
    rw [r4r_row_l0] at h
    refine TL.round ?_
    refine T.seq ?_
    refine T.seq ?_
    refine DGG.start ?_
    refine DGG.step (c := fun a => ⟨some 4, .ptr bx0 0, [(0, .ptr bx0 0)], [], []⟩) [] (fun _ _ _ => rfl) (fun a t hm => One.step rfl (.free rfl) (OpT.move rfl (dl rfl rfl) hm.s0 ⟨u0, rfl⟩)) (fun a => Ct.mo rfl rfl) ?_
    obtain ⟨m, ag, h⟩ := bind_some h
    refine DGG.step (c := fun a => ⟨some 5, .bool m, [(4, .ptr bx0 0)], [(1, .arrA ac 42 9 (y.map c_aNd)), (0, (o88 bx0 b d ac p q v))], [(0, (o88 bx0 b d ((a 1).1 0) p q v)), (1, .arrA ((a 1).1 0) 42 9 ((y).map c_aNd))]⟩) [1] (fun a γ' h => by simp only [h 1 (by decide)]) (fun a t hm => One.step rfl (.free rfl) (OpT.callG (is := [0, 1]) (ph := []) rfl (dl rfl rfl) Tryd.func49 rfl rfl (Args.cons hm.s0 Args.nil) (r4r_ends_T K (bx0 := bx0) (wx0c2 := ac) ag) (.cons hm.o1 rfl (.cons hm.o0 rfl (.nil))) (fun _ => rfl) (fun g => ⟨(g, 0), rfl⟩))) (fun a => Ct.mo rfl rfl) ?_
    refine DGG.step (c := fun a => ⟨some 6, .bool (!m), [(5, .bool m)], [], []⟩) [] (fun _ _ _ => rfl) (fun a t hm => One.step rfl (.free rfl) (OpT.not rfl (dl rfl rfl) hm.s0 ⟨u0, rfl⟩)) (fun a => Ct.mo rfl rfl) ?_
    refine DGG.step (c := fun a => ⟨some 7, .bool (!m), [(6, .bool (!m))], [], []⟩) [] (fun _ _ _ => rfl) (fun a t hm => One.step rfl (.free rfl) (OpT.move rfl (dl rfl rfl) hm.s0 ⟨u0, rfl⟩)) (fun a => Ct.mo rfl rfl) ?_
    rcases bif_some h with ⟨j, h⟩ | ⟨j, h⟩
    · refine DGG.step (c := fun a => ⟨some 8, .ptr bx0 0, [(0, .ptr bx0 0), (7, .bool (!m))], [], []⟩) [] (fun _ _ _ => rfl) (fun a t hm => One.step rfl (.on rfl rfl hm.s1 j) (OpT.move rfl (dl rfl rfl) hm.s0 ⟨u0, rfl⟩)) (fun a => Ct.mo rfl rfl) ?_
      refine DGG.step (c := fun a => ⟨some 9, .ptr bx0 0, [(8, .ptr bx0 0), (7, .bool (!m))], [], []⟩) [] (fun _ _ _ => rfl) (fun a t hm => One.step rfl (.on rfl rfl hm.s1 j) (OpT.nilCheck rfl (dl rfl rfl) hm.s0 rfl ⟨u0, rfl⟩)) (fun a => Ct.mo rfl rfl) ?_
      refine DGG.step (c := fun a => ⟨some 10, .ptr bx0 (0 + 0), [(9, .ptr bx0 0), (7, .bool (!m))], [], []⟩) [] (fun _ _ _ => rfl) (fun a t hm => One.step rfl (.on rfl rfl hm.s1 j) (OpT.fieldPtr rfl (dl rfl rfl) Tryd.underlying88 rfl i9 (by decide) hm.s0 ⟨u0, rfl⟩)) (fun a => Ct.mo rfl rfl) ?_
      refine DGG.step (c := fun a => ⟨some 11, .str b, [(10, .ptr bx0 (0 + 0)), (7, .bool (!m))], [(0, (o88 bx0 b d ((a 1).1 0) p q v))], []⟩) [1] (fun a γ' h => by simp only [h 1 (by decide)]) (fun a t hm => One.step rfl (.on rfl rfl hm.s1 j) (OpT.lB (i := 0) rfl (dl rfl rfl) Tryd.underlying9 rfl hm.s0 hm.o0 rfl ⟨u0, rfl⟩)) (fun a => Ct.mo rfl rfl) ?_
      refine DGG.step (c := fun a => ⟨some 12, .ptr bx0 0, [(0, .ptr bx0 0), (7, .bool (!m))], [], []⟩) [] (fun _ _ _ => rfl) (fun a t hm => One.step rfl (.on rfl rfl hm.s1 j) (OpT.move rfl (dl rfl rfl) hm.s0 ⟨u0, rfl⟩)) (fun a => Ct.mo rfl rfl) ?_
      refine DGG.step (c := fun a => ⟨some 13, .ptr bx0 0, [(12, .ptr bx0 0), (7, .bool (!m))], [], []⟩) [] (fun _ _ _ => rfl) (fun a t hm => One.step rfl (.on rfl rfl hm.s1 j) (OpT.nilCheck rfl (dl rfl rfl) hm.s0 rfl ⟨u0, rfl⟩)) (fun a => Ct.mo rfl rfl) ?_
      refine DGG.step (c := fun a => ⟨some 14, .ptr bx0 (0 + 1), [(13, .ptr bx0 0), (7, .bool (!m))], [], []⟩) [] (fun _ _ _ => rfl) (fun a t hm => One.step rfl (.on rfl rfl hm.s1 j) (OpT.fieldPtr rfl (dl rfl rfl) Tryd.underlying88 rfl i3 (by decide) hm.s0 ⟨u0, rfl⟩)) (fun a => Ct.mo rfl rfl) ?_
      refine DGG.step (c := fun a => ⟨some 15, .int .i64 d, [(14, .ptr bx0 (0 + 1)), (7, .bool (!m))], [(0, (o88 bx0 b d ((a 1).1 0) p q v))], []⟩) [1] (fun a γ' h => by simp only [h 1 (by decide)]) (fun a t hm => One.step rfl (.on rfl rfl hm.s1 j) (OpT.lB (i := 0) rfl (dl rfl rfl) Tryd.underlying3 rfl hm.s0 hm.o0 rfl ⟨u0, rfl⟩)) (fun a => Ct.mo rfl rfl) ?_
      obtain ⟨ad, h⟩ := ck_some h
      refine DGG.step (c := fun a => ⟨some 16, .int .u8 (bt b d), [(11, .str b), (15, .int .i64 d), (7, .bool (!m))], [], []⟩) [] (fun _ _ _ => rfl) (fun a t hm => One.step rfl (.on rfl rfl hm.s2 j) (OpT.indexStr rfl (dl rfl rfl) Tryd.underlying9 hm.s0 hm.s1 ad.1 ad.2 ⟨u0, rfl⟩)) (fun a => Ct.mo rfl rfl) ?_
      refine DGG.step (c := fun a => ⟨some 17, .bool ((bt b d) != (124 : Int)), [(16, .int .u8 (bt b d)), (7, .bool (!m))], [], []⟩) [] (fun _ _ _ => rfl) (fun a t hm => One.step rfl (.on rfl rfl hm.s1 j) (OpT.int2 rfl rfl (dl rfl rfl) hm.s0 rfl ⟨u0, rfl⟩)) (fun a => Ct.mo rfl rfl) ?_
      refine DGG.step (c := fun a => ⟨some 18, .bool ((bt b d) != (124 : Int)), [(7, .bool (!m)), (17, .bool ((bt b d) != (124 : Int)))], [], []⟩) [] (fun _ _ _ => rfl) (fun a t hm => One.step rfl (.free rfl) (OpT.pickT rfl (dl rfl rfl) hm.s0 j hm.s1 ⟨u0, rfl⟩)) (fun a => Ct.mo rfl rfl) ?_
      refine DGG.step (c := fun a => ⟨some 19, .bool ((bt b d) != (124 : Int)), [(18, .bool ((bt b d) != (124 : Int)))], [], []⟩) [] (fun _ _ _ => rfl) (fun a t hm => One.step rfl (.free rfl) (OpT.move rfl (dl rfl rfl) hm.s0 ⟨u0, rfl⟩)) (fun a => Ct.mo rfl rfl) ?_
      rcases bif_some h with ⟨l, h⟩ | ⟨l, h⟩
      · refine DGG.step (c := fun a => ⟨some 20, .ptr bx0 0, [(0, .ptr bx0 0), (19, .bool ((bt b d) != (124 : Int)))], [], []⟩) [] (fun _ _ _ => rfl) (fun a t hm => One.step rfl (.on rfl rfl hm.s1 l) (OpT.move rfl (dl rfl rfl) hm.s0 ⟨u0, rfl⟩)) (fun a => Ct.mo rfl rfl) ?_
        refine DGG.step (c := fun a => ⟨some 21, .ptr bx0 0, [(20, .ptr bx0 0), (19, .bool ((bt b d) != (124 : Int)))], [], []⟩) [] (fun _ _ _ => rfl) (fun a t hm => One.step rfl (.on rfl rfl hm.s1 l) (OpT.nilCheck rfl (dl rfl rfl) hm.s0 rfl ⟨u0, rfl⟩)) (fun a => Ct.mo rfl rfl) ?_
        refine DGG.step (c := fun a => ⟨some 22, .ptr bx0 (0 + 0), [(21, .ptr bx0 0), (19, .bool ((bt b d) != (124 : Int)))], [], []⟩) [] (fun _ _ _ => rfl) (fun a t hm => One.step rfl (.on rfl rfl hm.s1 l) (OpT.fieldPtr rfl (dl rfl rfl) Tryd.underlying88 rfl i9 (by decide) hm.s0 ⟨u0, rfl⟩)) (fun a => Ct.mo rfl rfl) ?_
        refine DGG.step (c := fun a => ⟨some 23, .str b, [(22, .ptr bx0 (0 + 0)), (19, .bool ((bt b d) != (124 : Int)))], [(0, (o88 bx0 b d ((a 1).1 0) p q v))], []⟩) [1] (fun a γ' h => by simp only [h 1 (by decide)]) (fun a t hm => One.step rfl (.on rfl rfl hm.s1 l) (OpT.lB (i := 0) rfl (dl rfl rfl) Tryd.underlying9 rfl hm.s0 hm.o0 rfl ⟨u0, rfl⟩)) (fun a => Ct.mo rfl rfl) ?_
        refine DGG.step (c := fun a => ⟨some 24, .ptr bx0 0, [(0, .ptr bx0 0), (19, .bool ((bt b d) != (124 : Int)))], [], []⟩) [] (fun _ _ _ => rfl) (fun a t hm => One.step rfl (.on rfl rfl hm.s1 l) (OpT.move rfl (dl rfl rfl) hm.s0 ⟨u0, rfl⟩)) (fun a => Ct.mo rfl rfl) ?_
        refine DGG.step (c := fun a => ⟨some 25, .ptr bx0 0, [(24, .ptr bx0 0), (19, .bool ((bt b d) != (124 : Int)))], [], []⟩) [] (fun _ _ _ => rfl) (fun a t hm => One.step rfl (.on rfl rfl hm.s1 l) (OpT.nilCheck rfl (dl rfl rfl) hm.s0 rfl ⟨u0, rfl⟩)) (fun a => Ct.mo rfl rfl) ?_
        refine DGG.step (c := fun a => ⟨some 26, .ptr bx0 (0 + 1), [(25, .ptr bx0 0), (19, .bool ((bt b d) != (124 : Int)))], [], []⟩) [] (fun _ _ _ => rfl) (fun a t hm => One.step rfl (.on rfl rfl hm.s1 l) (OpT.fieldPtr rfl (dl rfl rfl) Tryd.underlying88 rfl i3 (by decide) hm.s0 ⟨u0, rfl⟩)) (fun a => Ct.mo rfl rfl) ?_
        refine DGG.step (c := fun a => ⟨some 27, .int .i64 d, [(26, .ptr bx0 (0 + 1)), (19, .bool ((bt b d) != (124 : Int)))], [(0, (o88 bx0 b d ((a 1).1 0) p q v))], []⟩) [1] (fun a γ' h => by simp only [h 1 (by decide)]) (fun a t hm => One.step rfl (.on rfl rfl hm.s1 l) (OpT.lB (i := 0) rfl (dl rfl rfl) Tryd.underlying3 rfl hm.s0 hm.o0 rfl ⟨u0, rfl⟩)) (fun a => Ct.mo rfl rfl) ?_
        refine DGG.step (c := fun a => ⟨some 28, .int .u8 (bt b d), [(23, .str b), (27, .int .i64 d), (19, .bool ((bt b d) != (124 : Int)))], [], []⟩) [] (fun _ _ _ => rfl) (fun a t hm => One.step rfl (.on rfl rfl hm.s2 l) (OpT.indexStr rfl (dl rfl rfl) Tryd.underlying9 hm.s0 hm.s1 ad.1 ad.2 ⟨u0, rfl⟩)) (fun a => Ct.mo rfl rfl) ?_
        refine DGG.step (c := fun a => ⟨some 29, .bool ((bt b d) != (41 : Int)), [(28, .int .u8 (bt b d)), (19, .bool ((bt b d) != (124 : Int)))], [], []⟩) [] (fun _ _ _ => rfl) (fun a t hm => One.step rfl (.on rfl rfl hm.s1 l) (OpT.int2 rfl rfl (dl rfl rfl) hm.s0 rfl ⟨u0, rfl⟩)) (fun a => Ct.mo rfl rfl) ?_
        refine DGG.step (c := fun a => ⟨some 30, .bool ((bt b d) != (41 : Int)), [(19, .bool ((bt b d) != (124 : Int))), (29, .bool ((bt b d) != (41 : Int)))], [], []⟩) [] (fun _ _ _ => rfl) (fun a t hm => One.step rfl (.free rfl) (OpT.pickT rfl (dl rfl rfl) hm.s0 l hm.s1 ⟨u0, rfl⟩)) (fun a => Ct.mo rfl rfl) ?_
        refine DGG.fin (s1 := fun a => ⟨[(0, .ptr bx0 0), (3, .c (.ex w)), (8, .ptr bx0 0), (9, .ptr bx0 0), (10, .ptr bx0 (0 + 0)), (11, .str b), (12, .ptr bx0 0), (13, .ptr bx0 0), (14, .ptr bx0 (0 + 1)), (15, .int .i64 d), (16, .int .u8 (bt b d)), (17, .bool ((bt b d) != (124 : Int))), (20, .ptr bx0 0), (21, .ptr bx0 0), (22, .ptr bx0 (0 + 0)), (23, .str b), (24, .ptr bx0 0), (25, .ptr bx0 0), (26, .ptr bx0 (0 + 1)), (27, .int .i64 d), (28, .int .u8 (bt b d)), (29, .bool ((bt b d) != (41 : Int))), (30, .bool ((bt b d) != (41 : Int)))], [(o88 bx0 b d ((a 1).1 0) p q v), .arrA ((a 1).1 0) 42 9 ((y).map c_aNd), .arrA w 3 1 (aa.map (cI .i64))]⟩) (ms := [0, 1, 3, 7, 15, 31, 63, 127, 15, 271, 783, 1807, 4095, 8191, 16383, 32767, 65535, 131071, 262143, 524287, 65535, 1114111, 3211263, 7405567, 16777215, 33554431, 67108863]) TrydMixed rfl (by kernel_rfl) (by kernel_rfl) (by kernel_rfl) (fun a => by kernel_rfl) (fun a => .cons rfl (.cons rfl (.cons rfl (.cons rfl (.cons rfl (.cons rfl (.cons rfl (.cons rfl (.cons rfl (.cons rfl (.cons rfl (.cons rfl (.cons rfl (.cons rfl (.cons rfl (.cons rfl (.cons rfl (.cons rfl (.cons rfl (.cons rfl (.cons rfl (.cons rfl (.cons rfl (.nil _)))))))))))))))))))))))) (fun _ => rfl) (fun a u hu => (tN (T.by_turn hu ?_)))
        rcases bif_some h with ⟨af, h⟩ | ⟨af, h⟩
        · refine T.condT rfl af ?_
          refine T.skip (tN ?_)
          refine T.block ?_
          refine T.rL ?_
          refine mv rfl rfl rfl rfl rfl ?_
          refine mv rfl rfl rfl rfl rfl ?_
          obtain ⟨ab, ai, h⟩ := bind_some h
          refine sp rfl (OpT.callG (is := [0, 1]) (ph := []) rfl (dl rfl rfl) Tryd.func82 rfl rfl (Args.cons rfl Args.nil) (r4r_item_T K rec_r4r_alternative hrec_r4r_alternative (bx0 := bx0) (wx0c2 := ((a 1).1 0)) ai) (.cons rfl rfl (.cons rfl rfl (.nil))) (fun _ => rfl) (fun aj => ?_))
          refine nm (.c (.c (.c (.n)))) ?_
          refine sp rfl (OpT.buildSlice (elems := ([ab.1] : List Int).map (cI .i64)) rfl (dl rfl rfl) Tryd.underlying40 i3 (by decide) rfl (all1 rfl) rfl rfl rfl (lenAll rfl) (by decide) ?_)
          obtain ⟨al, h⟩ := ck_some h
          refine sp rfl (OpT.appendAM (i := 2) (xs := aa) (ys := [ab.1]) (f := (cI .i64)) rfl (dl rfl rfl) Tryd.underlying40 i3 rfl rfl rfl rfl al (fun am => ?_))
          refine asg rfl rfl rfl rfl rfl ?_
          refine TL'.nil (inBlock_normal (tN ?_))
          refine TL.by_turn ?_ (ih ab.2.s ab.2.at_ ab.2.deep ab.2.e ab.2.where_ ab.2.nodes (aa ++ [ab.1]) (aj 0) am h)
          exact Turn.rp (.cons rfl (.cons rfl (.nil _))) (.c .z (.c .z (.c .z (.n _))))
        · refine T.condF rfl af ?_
          refine T.by_turn ?_ (r4r_row_j1_T K rec_r4r_alternative hrec_r4r_alternative bx0 b d p q v y aa ((a 1).1 0) w h)
          exact Turn.rp (.cons rfl (.cons rfl (.nil _))) (.c .z (.c .z (.c .z (.n _))))
      · refine DGG.off l rfl rfl rfl rfl rfl (fun _ => rfl) ?_
        refine DGG.off l rfl rfl rfl rfl rfl (fun _ => rfl) ?_
        refine DGG.off l rfl rfl rfl rfl rfl (fun _ => rfl) ?_
        refine DGG.off l rfl rfl rfl rfl rfl (fun _ => rfl) ?_
        refine DGG.off l rfl rfl rfl rfl rfl (fun _ => rfl) ?_
        refine DGG.off l rfl rfl rfl rfl rfl (fun _ => rfl) ?_
        refine DGG.off l rfl rfl rfl rfl rfl (fun _ => rfl) ?_
        refine DGG.off l rfl rfl rfl rfl rfl (fun _ => rfl) ?_
        refine DGG.off l rfl rfl rfl rfl rfl (fun _ => rfl) ?_
        refine DGG.off l rfl rfl rfl rfl rfl (fun _ => rfl) ?_
        refine DGG.step (c := fun a => ⟨some 30, .bool false, [(19, .bool ((bt b d) != (124 : Int)))], [], []⟩) [] (fun _ _ _ => rfl) (fun a t hm => One.step rfl (.free rfl) (OpT.pickF rfl (dl rfl rfl) hm.s0 l rfl ⟨u0, rfl⟩)) (fun a => Ct.mo rfl rfl) ?_
        refine DGG.fin (s1 := fun a => ⟨[(0, .ptr bx0 0), (3, .c (.ex w)), (8, .ptr bx0 0), (9, .ptr bx0 0), (10, .ptr bx0 (0 + 0)), (11, .str b), (12, .ptr bx0 0), (13, .ptr bx0 0), (14, .ptr bx0 (0 + 1)), (15, .int .i64 d), (16, .int .u8 (bt b d)), (17, .bool ((bt b d) != (124 : Int))), (20, .tup []), (21, .tup []), (22, .tup []), (23, .tup []), (24, .tup []), (25, .tup []), (26, .tup []), (27, .tup []), (28, .tup []), (29, .tup []), (30, .bool false)], [(o88 bx0 b d ((a 1).1 0) p q v), .arrA ((a 1).1 0) 42 9 ((y).map c_aNd), .arrA w 3 1 (aa.map (cI .i64))]⟩) (ms := [0, 1, 3, 7, 15, 31, 63, 127, 15, 271, 783, 1807, 4095, 8191, 16383, 32767, 65535, 131071, 262143, 524287, 65535, 1114111, 3211263, 7405567, 16777215, 33554431, 67108863]) TrydMixed rfl (by kernel_rfl) (by kernel_rfl) (by kernel_rfl) (fun a => by kernel_rfl) (fun a => .cons rfl (.cons rfl (.cons rfl (.cons rfl (.cons rfl (.cons rfl (.cons rfl (.cons rfl (.cons rfl (.cons rfl (.cons rfl (.cons rfl (.cons rfl (.cons rfl (.cons rfl (.cons rfl (.cons rfl (.cons rfl (.cons rfl (.cons rfl (.cons rfl (.cons rfl (.cons rfl (.nil _)))))))))))))))))))))))) (fun _ => rfl) (fun a u hu => (tN (T.by_turn hu ?_)))
        refine T.condF rfl rfl ?_
        refine T.by_turn ?_ (r4r_row_j1_T K rec_r4r_alternative hrec_r4r_alternative bx0 b d p q v y aa ((a 1).1 0) w h)
        exact Turn.rp (.cons rfl (.cons rfl (.nil _))) (.c .z (.c .z (.c .z (.n _))))
    · refine DGG.off j rfl rfl rfl rfl rfl (fun _ => rfl) ?_
      refine DGG.off j rfl rfl rfl rfl rfl (fun _ => rfl) ?_
      refine DGG.off j rfl rfl rfl rfl rfl (fun _ => rfl) ?_
      refine DGG.off j rfl rfl rfl rfl rfl (fun _ => rfl) ?_
      refine DGG.off j rfl rfl rfl rfl rfl (fun _ => rfl) ?_
      refine DGG.off j rfl rfl rfl rfl rfl (fun _ => rfl) ?_
      refine DGG.off j rfl rfl rfl rfl rfl (fun _ => rfl) ?_
      refine DGG.off j rfl rfl rfl rfl rfl (fun _ => rfl) ?_
      refine DGG.off j rfl rfl rfl rfl rfl (fun _ => rfl) ?_
      refine DGG.off j rfl rfl rfl rfl rfl (fun _ => rfl) ?_
      refine DGG.step (c := fun a => ⟨some 18, .bool false, [(7, .bool (!m))], [], []⟩) [] (fun _ _ _ => rfl) (fun a t hm => One.step rfl (.free rfl) (OpT.pickF rfl (dl rfl rfl) hm.s0 j rfl ⟨u0, rfl⟩)) (fun a => Ct.mo rfl rfl) ?_
      refine DGG.step (c := fun a => ⟨some 19, .bool false, [(18, .bool false)], [], []⟩) [] (fun _ _ _ => rfl) (fun a t hm => One.step rfl (.free rfl) (OpT.move rfl (dl rfl rfl) hm.s0 ⟨u0, rfl⟩)) (fun a => Ct.mo rfl rfl) ?_
      refine DGG.off rfl rfl rfl rfl rfl rfl (fun _ => rfl) ?_
      refine DGG.off rfl rfl rfl rfl rfl rfl (fun _ => rfl) ?_
      refine DGG.off rfl rfl rfl rfl rfl rfl (fun _ => rfl) ?_
      refine DGG.off rfl rfl rfl rfl rfl rfl (fun _ => rfl) ?_
      refine DGG.off rfl rfl rfl rfl rfl rfl (fun _ => rfl) ?_
      refine DGG.off rfl rfl rfl rfl rfl rfl (fun _ => rfl) ?_
      refine DGG.off rfl rfl rfl rfl rfl rfl (fun _ => rfl) ?_
      refine DGG.off rfl rfl rfl rfl rfl rfl (fun _ => rfl) ?_
      refine DGG.off rfl rfl rfl rfl rfl rfl (fun _ => rfl) ?_
      refine DGG.off rfl rfl rfl rfl rfl rfl (fun _ => rfl) ?_
      refine DGG.step (c := fun a => ⟨some 30, .bool false, [(19, .bool false)], [], []⟩) [] (fun _ _ _ => rfl) (fun a t hm => One.step rfl (.free rfl) (OpT.pickF rfl (dl rfl rfl) hm.s0 rfl rfl ⟨u0, rfl⟩)) (fun a => Ct.mo rfl rfl) ?_
      refine DGG.fin (s1 := fun a => ⟨[(0, .ptr bx0 0), (3, .c (.ex w)), (8, .tup []), (9, .tup []), (10, .tup []), (11, .tup []), (12, .tup []), (13, .tup []), (14, .tup []), (15, .tup []), (16, .tup []), (17, .tup []), (20, .tup []), (21, .tup []), (22, .tup []), (23, .tup []), (24, .tup []), (25, .tup []), (26, .tup []), (27, .tup []), (28, .tup []), (29, .tup []), (30, .bool false)], [(o88 bx0 b d ((a 1).1 0) p q v), .arrA ((a 1).1 0) 42 9 ((y).map c_aNd), .arrA w 3 1 (aa.map (cI .i64))]⟩) (ms := [0, 1, 3, 7, 15, 31, 63, 127, 15, 271, 783, 1807, 4095, 8191, 16383, 32767, 65535, 131071, 262143, 524287, 65535, 1114111, 3211263, 7405567, 16777215, 33554431, 67108863]) TrydMixed rfl (by kernel_rfl) (by kernel_rfl) (by kernel_rfl) (fun a => by kernel_rfl) (fun a => .cons rfl (.cons rfl (.cons rfl (.cons rfl (.cons rfl (.cons rfl (.cons rfl (.cons rfl (.cons rfl (.cons rfl (.cons rfl (.cons rfl (.cons rfl (.cons rfl (.cons rfl (.cons rfl (.cons rfl (.cons rfl (.cons rfl (.cons rfl (.cons rfl (.cons rfl (.cons rfl (.nil _)))))))))))))))))))))))) (fun _ => rfl) (fun a u hu => (tN (T.by_turn hu ?_)))
      refine T.condF rfl rfl ?_
      refine T.by_turn ?_ (r4r_row_j1_T K rec_r4r_alternative hrec_r4r_alternative bx0 b d p q v y aa ((a 1).1 0) w h)
      exact Turn.rp (.cons rfl (.cons rfl (.nil _))) (.c .z (.c .z (.c .z (.n _))))
theorem r4r_row_T (K : Nat) (rec_r4r_alternative : r4r → Option (Int × r4r)) (hrec_r4r_alternative : r4r_alternative_S rec_r4r_alternative) {x0 : r4r} {bx0 : Nat} {wx0c2 : Value} {r : Int × r4r} (h : r4r_row K rec_r4r_alternative x0 = some r) : CallG Tryd.prog 64 [.ptr bx0 0] [(o88 bx0 x0.s x0.at_ wx0c2 x0.deep x0.e x0.where_), .arrA wx0c2 42 9 (x0.nodes.map c_aNd)] (fun γ => (.int .i64 r.1)) (fun γ => [(o88 bx0 r.2.s r.2.at_ (γ 0) r.2.deep r.2.e r.2.where_), .arrA (γ 0) 42 9 (r.2.nodes.map c_aNd)]) := by
 refine CallT.intro Tryd.func64 rfl (nb rfl) ?_
 show T Tryd.prog 57 (Code.at [] (codeOf Tryd.f64)) ⟨paramSlots 0 [.ptr bx0 0], [(o88 bx0 x0.s x0.at_ wx0c2 x0.deep x0.e x0.where_), .arrA wx0c2 42 9 (x0.nodes.map c_aNd)]⟩ (r4r_row_q bx0 r)
 unfold r4r_row at h
 refine T.seq (T.rL ?_)
 refine aw rfl ?_
 refine TL'.nil (tN (T.seq (T.rL ?_)))
 refine aw rfl ?_
 refine TL'.nil (tN ?_)
 refine T.seq ?_
 refine T.block ?_
 refine T.loop ?_
 refine TL.by_turn (Turn.nilA 3 1) ?_
 refine TL.by_turn ?_ (r4r_row_l0_T K rec_r4r_alternative hrec_r4r_alternative bx0 K x0.s x0.at_ x0.deep x0.e x0.where_ x0.nodes [] wx0c2 (nilv 2) h)
 exact Turn.rp (.cons rfl (.cons rfl (.nil _))) (.c (.s .z) (.c (.s .z) (.c .z (.n _))))
abbrev r4r_alternative_q (bx0 : Nat) (r : Int × r4r) : Exit → St → Prop := retS Tryd.prog Tryd.f48 (fun y t => ∃ γ : Nat → Value, y = (.int .i64 r.1) ∧ t = [(o88 bx0 r.2.s r.2.at_ (γ 0) r.2.deep r.2.e r.2.where_), .arrA (γ 0) 42 9 (r.2.nodes.map c_aNd)])
abbrev r4r_alternative_qs1111 (bx0 : Nat) (r : Int × r4r) : Exit → St → Prop := thenS (fun s' => T Tryd.prog 51 (Code.at [1, 1, 1, 1] (codeOf Tryd.f48)) s' ((r4r_alternative_q bx0 r))) ((r4r_alternative_q bx0 r))
abbrev r4r_alternative_qs111 (bx0 : Nat) (r : Int × r4r) : Exit → St → Prop := thenS (fun s' => T Tryd.prog 51 (Code.at [1, 1, 1] (codeOf Tryd.f48)) s' ((r4r_alternative_q bx0 r))) ((r4r_alternative_q bx0 r))
abbrev r4r_alternative_qb0x111 (bx0 : Nat) (r : Int × r4r) : Exit → St → Prop := inBlockS 0 ((r4r_alternative_qs111 bx0 r))
abbrev r4r_alternative_ql1100 (bx0 : Nat) (r : Int × r4r) : Exit → St → Prop := thenS (fun s' => TL Tryd.prog 51 (Code.at [1, 1, 0, 0, 0] (codeOf Tryd.f48)) s' ((r4r_alternative_qb0x111 bx0 r))) ((r4r_alternative_qb0x111 bx0 r))
abbrev r4r_alternative_qs110001 (bx0 : Nat) (r : Int × r4r) : Exit → St → Prop := thenS (fun s' => T Tryd.prog 51 (Code.at [1, 1, 0, 0, 0, 1] (codeOf Tryd.f48)) s' ((r4r_alternative_ql1100 bx0 r))) ((r4r_alternative_ql1100 bx0 r))
theorem r4r_alternative_j2_T {r : Int × r4r} (K : Nat) (rec_r4r_alternative : r4r → Option (Int × r4r)) (hrec_r4r_alternative : r4r_alternative_S rec_r4r_alternative) (bx0 : Nat) (a : List Int) (d : ByteArray) (g : Int) (i : Int) (j : Int) (l : Int) (m : List aNd) (n : Value) (b : Value) (h : r4r_alternative_j2 K rec_r4r_alternative a d g i j l m = some r) : T Tryd.prog 51 (Code.at [1, 1, 1, 0, 1, 0] (codeOf Tryd.f48)) ⟨[(3, .c (.ex n))], [.arrA n 3 1 (a.map (cI .i64)), (o88 bx0 d g b i j l), .arrA b 42 9 (m.map c_aNd)]⟩ (r4r_alternative_qs1111 bx0 r) := by
 unfold r4r_alternative_j2 at h
 refine T.seq (T.rL ?_)
 refine mw rfl ?_
 refine TL'.turn (Turn.view 44 0 rfl rfl) ?_
 obtain ⟨p, q, h⟩ := bind_some h
 refine sp rfl (OpT.indexSlM (xs := a) (f := (cI .i64)) (v := p) rfl (dk rfl) ul40 i3 rfl rfl q ?_)
 refine sp rfl (OpT.loadRef rfl (dk rfl) ul3 rfl rfl rfl ?_)
 refine aw rfl ?_
 refine TL'.nil (tN ?_)
 refine T.ret (thenS_ret ?_)
 exact Fin.doneK (.cons _ _ _ _ (.tmp 2 _ rfl) .nil) (.cons 1 rfl (.cons 1 rfl (.nil _))) (by cases h; exact ⟨gl [b], rfl, rfl⟩)
theorem r4r_alternative_j1_T {r : Int × r4r} (K : Nat) (rec_r4r_alternative : r4r → Option (Int × r4r)) (hrec_r4r_alternative : r4r_alternative_S rec_r4r_alternative) (bx0 : Nat) (j : ByteArray) (m : Int) (p : Int) (q : Int) (u : Int) (v : List aNd) (b : List Int) (g : Value) (d : Value) (h : r4r_alternative_j1 K rec_r4r_alternative j m p q u v b = some r) : T Tryd.prog 51 (Code.at [1, 1, 0, 0, 0, 0, 1, 1] (codeOf Tryd.f48)) ⟨[(0, .ptr bx0 0), (3, .c (.ex d))], [(o88 bx0 j m g p q u), .arrA g 42 9 (v.map c_aNd), .arrA d 3 1 (b.map (cI .i64))]⟩ (r4r_alternative_qs110001 bx0 r) := by
 unfold r4r_alternative_j1 at h
 refine T.exit (thenS_exit (thenS_exit (inBlock_exit (tN ?_))))
 refine T.seq ?_
 refine T.seq (T.rL ?_)
 refine mw rfl ?_
 refine sp rfl (OpT.lenAM (i := 2) (xs := b) (f := (cI .i64)) rfl (dk rfl) ul40 rfl rfl ?_)
 refine sp rfl (OpT.int2 rfl rfl (dk rfl) rfl rfl ?_)
 refine mw rfl ?_
 rcases bif_some h with ⟨a, h⟩ | ⟨a, h⟩
 refine TL'.pU (.off _ _ _ _ rfl rfl rfl a) (dk rfl) ?_
 refine TL'.pU (.off _ _ _ _ rfl rfl rfl a) (dk rfl) ?_
 refine TL'.pU (.off _ _ _ _ rfl rfl rfl a) (dk rfl) ?_
 refine TL'.pU (.off _ _ _ _ rfl rfl rfl a) (dk rfl) ?_
 refine TL'.pU (.off _ _ _ _ rfl rfl rfl a) (dk rfl) ?_
 refine sp rfl (OpT.pickT rfl (dk rfl) rfl a rfl ?_)
 refine TL'.nil (tN ?_)
 refine T.condT rfl rfl ?_
 refine T.by_turn ?_ (r4r_alternative_j2_T K rec_r4r_alternative hrec_r4r_alternative bx0 b j m p q u v d g h)
 exact Turn.rp (.cons rfl (.nil _)) (.c (.s (.s .z)) (.c .z (.c .z (.n _))))
 refine TL'.step (.on rfl rfl rfl a) (OpT.move rfl (dk rfl) rfl ?_)
 refine TL'.step (.on rfl rfl rfl a) (OpT.nilCheck rfl (dk rfl) rfl rfl ?_)
 refine TL'.step (.on rfl rfl rfl a) (OpT.fieldPtr rfl (dk rfl) ul88 rfl i35 (by decide) rfl ?_)
 refine TL'.step (.on rfl rfl rfl a) (OpT.lB (i := 0) rfl (dk rfl) ul35 rfl rfl rfl rfl ?_)
 refine TL'.step (.on rfl rfl rfl a) (OpT.int2 rfl rfl (dk rfl) rfl rfl ?_)
 refine sp rfl (OpT.pickF rfl (dk rfl) rfl a rfl ?_)
 refine TL'.nil (tN ?_)
 rcases bif_some h with ⟨w, h⟩ | ⟨w, h⟩
 refine T.condT rfl w ?_
 refine T.by_turn ?_ (r4r_alternative_j2_T K rec_r4r_alternative hrec_r4r_alternative bx0 b j m p q u v d g h)
 exact Turn.rp (.cons rfl (.nil _)) (.c (.s (.s .z)) (.c .z (.c .z (.n _))))
 refine T.condF rfl w ?_
 refine T.skip (tN ?_)
 refine T.seq (T.rL ?_)
 refine mw rfl ?_
 refine mw rfl ?_
 refine sp rfl (OpT.thenTurn (OpT.build (l := [.int .u8 (4 : Int), .int .u64 (Arr4.mk 0 0 0 0).a0, .int .u64 (Arr4.mk 0 0 0 0).a1, .int .u64 (Arr4.mk 0 0 0 0).a2, .int .u64 (Arr4.mk 0 0 0 0).a3, .ex d, .int .i64 (0 : Int), .int .i64 (0 : Int), .str (⟨#[]⟩ : ByteArray)]) rfl (dk rfl) (built_struct (pl := [(0, 1), (1, 4), (5, 1), (6, 1), (7, 1), (8, 1)]) ul42 i42 rfl) (all1 rfl) rfl rfl rfl) (Turn.weakSlotP 49 (l := [.int .u8 (4 : Int), .int .u64 (Arr4.mk 0 0 0 0).a0, .int .u64 (Arr4.mk 0 0 0 0).a1, .int .u64 (Arr4.mk 0 0 0 0).a2, .int .u64 (Arr4.mk 0 0 0 0).a3, .ex d, .int .i64 (0 : Int), .int .i64 (0 : Int), .str (⟨#[]⟩ : ByteArray)]) (l' := [.int .u8 (4 : Int), .int .u64 (Arr4.mk 0 0 0 0).a0, .int .u64 (Arr4.mk 0 0 0 0).a1, .int .u64 (Arr4.mk 0 0 0 0).a2, .int .u64 (Arr4.mk 0 0 0 0).a3, .sl false 1 (b.map (cI .i64)), .int .i64 (0 : Int), .int .i64 (0 : Int), .str (⟨#[]⟩ : ByteArray)]) (.cons (.same _) (.cons (.same _) (.cons (.same _) (.cons (.same _) (.cons (.same _) (.cons (.view 2 rfl) (.cons (.same _) (.cons (.same _) (.cons (.same _) (.refl _))))))))))) ?_)
 obtain ⟨ab, y, h⟩ := bind_some h
 refine sp rfl (OpT.callG (is := [0, 1]) (ph := []) rfl (dk rfl) Tryd.func65 rfl rfl (Args.cons rfl (Args.cons rfl Args.nil)) (r4r_put_T K (bx0 := bx0) (wx0c2 := g) y) (.cons rfl rfl (.cons rfl rfl (.nil))) (fun _ => rfl) (fun aa => ?_))
 refine nm (.c (.c (.c (.n)))) ?_
 refine aw rfl ?_
 refine TL'.nil (tN ?_)
 refine T.ret ?_
 exact Fin.doneK (.cons _ _ _ _ (.tmp 2 _ rfl) .nil) (.cons 0 rfl (.cons 0 rfl (.nil _))) (by cases h; exact ⟨gl [aa 0], rfl, rfl⟩)
theorem r4r_alternative_l0_T {r : Int × r4r} (K : Nat) (rec_r4r_alternative : r4r → Option (Int × r4r)) (hrec_r4r_alternative : r4r_alternative_S rec_r4r_alternative) (bx0 : Nat) : ∀ (k : Nat), ∀ (b : ByteArray) (j : Int) (p : Int) (q : Int) (v : Int) (w : List aNd) (y : List Int) (ac : Value) (aa : Value), r4r_alternative_l0 K rec_r4r_alternative k b j p q v w y = some r → TL Tryd.prog 51 (Code.at [1, 1, 0, 0, 0] (codeOf Tryd.f48)) ⟨[(0, .ptr bx0 0), (3, .c (.ex aa))], [(o88 bx0 b j ac p q v), .arrA ac 42 9 (w.map c_aNd), .arrA aa 3 1 (y.map (cI .i64))]⟩ (r4r_alternative_qb0x111 bx0 r) := by
  intro k
  induction k with
  | zero =>
    intro b j p q v w y ac aa h
    cases (show (none : Option (Int × r4r)) = some r from h)
  | succ k ih =>
    intro b j p q v w y ac aa h
    rw [r4r_alternative_l0] at h
    refine TL.round ?_
    refine T.seq ?_
    refine T.seq ?_
    refine DGG.start ?_
    refine DGG.step (c := fun a => ⟨some 7, .ptr bx0 0, [(0, .ptr bx0 0)], [], []⟩) [] (fun _ _ _ => rfl) (fun a t hm => One.step rfl (.free rfl) (OpT.move rfl (dl rfl rfl) hm.s0 ⟨u0, rfl⟩)) (fun a => Ct.mo rfl rfl) ?_
    obtain ⟨m, ag, h⟩ := bind_some h
    refine DGG.step (c := fun a => ⟨some 8, .bool m, [(7, .ptr bx0 0)], [(1, .arrA ac 42 9 (w.map c_aNd)), (0, (o88 bx0 b j ac p q v))], [(0, (o88 bx0 b j ((a 1).1 0) p q v)), (1, .arrA ((a 1).1 0) 42 9 ((w).map c_aNd))]⟩) [1] (fun a γ' h => by simp only [h 1 (by decide)]) (fun a t hm => One.step rfl (.free rfl) (OpT.callG (is := [0, 1]) (ph := []) rfl (dl rfl rfl) Tryd.func49 rfl rfl (Args.cons hm.s0 Args.nil) (r4r_ends_T K (bx0 := bx0) (wx0c2 := ac) ag) (.cons hm.o1 rfl (.cons hm.o0 rfl (.nil))) (fun _ => rfl) (fun g => ⟨(g, 0), rfl⟩))) (fun a => Ct.mo rfl rfl) ?_
    refine DGG.step (c := fun a => ⟨some 9, .bool (!m), [(8, .bool m)], [], []⟩) [] (fun _ _ _ => rfl) (fun a t hm => One.step rfl (.free rfl) (OpT.not rfl (dl rfl rfl) hm.s0 ⟨u0, rfl⟩)) (fun a => Ct.mo rfl rfl) ?_
    refine DGG.step (c := fun a => ⟨some 10, .bool (!m), [(9, .bool (!m))], [], []⟩) [] (fun _ _ _ => rfl) (fun a t hm => One.step rfl (.free rfl) (OpT.move rfl (dl rfl rfl) hm.s0 ⟨u0, rfl⟩)) (fun a => Ct.mo rfl rfl) ?_
    rcases bif_some h with ⟨l, h⟩ | ⟨l, h⟩
    · refine DGG.step (c := fun a => ⟨some 11, .ptr bx0 0, [(0, .ptr bx0 0), (10, .bool (!m))], [], []⟩) [] (fun _ _ _ => rfl) (fun a t hm => One.step rfl (.on rfl rfl hm.s1 l) (OpT.move rfl (dl rfl rfl) hm.s0 ⟨u0, rfl⟩)) (fun a => Ct.mo rfl rfl) ?_
      refine DGG.step (c := fun a => ⟨some 12, .ptr bx0 0, [(11, .ptr bx0 0), (10, .bool (!m))], [], []⟩) [] (fun _ _ _ => rfl) (fun a t hm => One.step rfl (.on rfl rfl hm.s1 l) (OpT.nilCheck rfl (dl rfl rfl) hm.s0 rfl ⟨u0, rfl⟩)) (fun a => Ct.mo rfl rfl) ?_
      refine DGG.step (c := fun a => ⟨some 13, .ptr bx0 (0 + 0), [(12, .ptr bx0 0), (10, .bool (!m))], [], []⟩) [] (fun _ _ _ => rfl) (fun a t hm => One.step rfl (.on rfl rfl hm.s1 l) (OpT.fieldPtr rfl (dl rfl rfl) Tryd.underlying88 rfl i9 (by decide) hm.s0 ⟨u0, rfl⟩)) (fun a => Ct.mo rfl rfl) ?_
      refine DGG.step (c := fun a => ⟨some 14, .str b, [(13, .ptr bx0 (0 + 0)), (10, .bool (!m))], [(0, (o88 bx0 b j ((a 1).1 0) p q v))], []⟩) [1] (fun a γ' h => by simp only [h 1 (by decide)]) (fun a t hm => One.step rfl (.on rfl rfl hm.s1 l) (OpT.lB (i := 0) rfl (dl rfl rfl) Tryd.underlying9 rfl hm.s0 hm.o0 rfl ⟨u0, rfl⟩)) (fun a => Ct.mo rfl rfl) ?_
      refine DGG.step (c := fun a => ⟨some 15, .ptr bx0 0, [(0, .ptr bx0 0), (10, .bool (!m))], [], []⟩) [] (fun _ _ _ => rfl) (fun a t hm => One.step rfl (.on rfl rfl hm.s1 l) (OpT.move rfl (dl rfl rfl) hm.s0 ⟨u0, rfl⟩)) (fun a => Ct.mo rfl rfl) ?_
      refine DGG.step (c := fun a => ⟨some 16, .ptr bx0 0, [(15, .ptr bx0 0), (10, .bool (!m))], [], []⟩) [] (fun _ _ _ => rfl) (fun a t hm => One.step rfl (.on rfl rfl hm.s1 l) (OpT.nilCheck rfl (dl rfl rfl) hm.s0 rfl ⟨u0, rfl⟩)) (fun a => Ct.mo rfl rfl) ?_
      refine DGG.step (c := fun a => ⟨some 17, .ptr bx0 (0 + 1), [(16, .ptr bx0 0), (10, .bool (!m))], [], []⟩) [] (fun _ _ _ => rfl) (fun a t hm => One.step rfl (.on rfl rfl hm.s1 l) (OpT.fieldPtr rfl (dl rfl rfl) Tryd.underlying88 rfl i3 (by decide) hm.s0 ⟨u0, rfl⟩)) (fun a => Ct.mo rfl rfl) ?_
      refine DGG.step (c := fun a => ⟨some 18, .int .i64 j, [(17, .ptr bx0 (0 + 1)), (10, .bool (!m))], [(0, (o88 bx0 b j ((a 1).1 0) p q v))], []⟩) [1] (fun a γ' h => by simp only [h 1 (by decide)]) (fun a t hm => One.step rfl (.on rfl rfl hm.s1 l) (OpT.lB (i := 0) rfl (dl rfl rfl) Tryd.underlying3 rfl hm.s0 hm.o0 rfl ⟨u0, rfl⟩)) (fun a => Ct.mo rfl rfl) ?_
      obtain ⟨af, h⟩ := ck_some h
      refine DGG.step (c := fun a => ⟨some 19, .int .u8 (bt b j), [(14, .str b), (18, .int .i64 j), (10, .bool (!m))], [], []⟩) [] (fun _ _ _ => rfl) (fun a t hm => One.step rfl (.on rfl rfl hm.s2 l) (OpT.indexStr rfl (dl rfl rfl) Tryd.underlying9 hm.s0 hm.s1 af.1 af.2 ⟨u0, rfl⟩)) (fun a => Ct.mo rfl rfl) ?_
      refine DGG.step (c := fun a => ⟨some 20, .bool ((bt b j) == (124 : Int)), [(19, .int .u8 (bt b j)), (10, .bool (!m))], [], []⟩) [] (fun _ _ _ => rfl) (fun a t hm => One.step rfl (.on rfl rfl hm.s1 l) (OpT.int2 rfl rfl (dl rfl rfl) hm.s0 rfl ⟨u0, rfl⟩)) (fun a => Ct.mo rfl rfl) ?_
      refine DGG.step (c := fun a => ⟨some 21, .bool ((bt b j) == (124 : Int)), [(10, .bool (!m)), (20, .bool ((bt b j) == (124 : Int)))], [], []⟩) [] (fun _ _ _ => rfl) (fun a t hm => One.step rfl (.free rfl) (OpT.pickT rfl (dl rfl rfl) hm.s0 l hm.s1 ⟨u0, rfl⟩)) (fun a => Ct.mo rfl rfl) ?_
      refine DGG.fin (s1 := fun a => ⟨[(0, .ptr bx0 0), (3, .c (.ex aa)), (11, .ptr bx0 0), (12, .ptr bx0 0), (13, .ptr bx0 (0 + 0)), (14, .str b), (15, .ptr bx0 0), (16, .ptr bx0 0), (17, .ptr bx0 (0 + 1)), (18, .int .i64 j), (19, .int .u8 (bt b j)), (20, .bool ((bt b j) == (124 : Int))), (21, .bool ((bt b j) == (124 : Int)))], [(o88 bx0 b j ((a 1).1 0) p q v), .arrA ((a 1).1 0) 42 9 ((w).map c_aNd), .arrA aa 3 1 (y.map (cI .i64))]⟩) (ms := [0, 1, 3, 7, 15, 31, 63, 127, 15, 271, 783, 1807, 4095, 8191, 16383]) TrydMixed rfl (by kernel_rfl) (by kernel_rfl) (by kernel_rfl) (fun a => by kernel_rfl) (fun a => .cons rfl (.cons rfl (.cons rfl (.cons rfl (.cons rfl (.cons rfl (.cons rfl (.cons rfl (.cons rfl (.cons rfl (.cons rfl (.cons rfl (.cons rfl (.nil _)))))))))))))) (fun _ => rfl) (fun a u hu => (tN (T.by_turn hu ?_)))
      rcases bif_some h with ⟨ad, h⟩ | ⟨ad, h⟩
      · refine T.condT rfl ad ?_
        refine T.skip (tN ?_)
        refine T.block ?_
        refine T.seq ?_
        refine T.rL ?_
        refine mv rfl rfl rfl rfl rfl ?_
        refine sp rfl (OpT.nilCheck rfl (dl rfl rfl) rfl rfl ?_)
        refine sp rfl (OpT.fieldPtr rfl (dl rfl rfl) Tryd.underlying88 rfl i3 (by decide) rfl ?_)
        refine sp rfl (OpT.lB (i := 0) rfl (dl rfl rfl) Tryd.underlying3 rfl rfl rfl rfl ?_)
        refine sp rfl (OpT.int2 rfl rfl (dl rfl rfl) rfl rfl ?_)
        refine sp rfl (OpT.nilCheck rfl (dl rfl rfl) rfl rfl ?_)
        refine sp rfl (OpT.fieldPtr rfl (dl rfl rfl) Tryd.underlying88 rfl i3 (by decide) rfl ?_)
        refine sp rfl (OpT.storeTo (i := 0) (cells' := [.d (.str b), .d (.int .i64 (wI (j + (1 : Int)))), .d (.ex ((a 1).1 0)), .d (.int .i64 p), .d (.int .i64 q), .d (.int .i64 v)]) rfl rfl i3 rfl rfl rfl (Nat.le_of_ble_eq_true rfl) rfl ?_)
        refine TL'.nil (tN ?_)
        refine T.rL ?_
        refine mv rfl rfl rfl rfl rfl ?_
        refine mv rfl rfl rfl rfl rfl ?_
        obtain ⟨ab, ai, h⟩ := bind_some h
        refine sp rfl (OpT.callG (is := [0, 1]) (ph := []) rfl (dl rfl rfl) Tryd.func64 rfl rfl (Args.cons rfl Args.nil) (r4r_row_T K rec_r4r_alternative hrec_r4r_alternative (bx0 := bx0) (wx0c2 := ((a 1).1 0)) ai) (.cons rfl rfl (.cons rfl rfl (.nil))) (fun _ => rfl) (fun aj => ?_))
        refine nm (.c (.c (.c (.n)))) ?_
        refine sp rfl (OpT.buildSlice (elems := ([ab.1] : List Int).map (cI .i64)) rfl (dl rfl rfl) Tryd.underlying40 i3 (by decide) rfl (all1 rfl) rfl rfl rfl (lenAll rfl) (by decide) ?_)
        obtain ⟨al, h⟩ := ck_some h
        refine sp rfl (OpT.appendAM (i := 2) (xs := y) (ys := [ab.1]) (f := (cI .i64)) rfl (dl rfl rfl) Tryd.underlying40 i3 rfl rfl rfl rfl al (fun am => ?_))
        refine asg rfl rfl rfl rfl rfl ?_
        refine TL'.nil (inBlock_normal (tN ?_))
        refine TL.by_turn ?_ (ih ab.2.s ab.2.at_ ab.2.deep ab.2.e ab.2.where_ ab.2.nodes (y ++ [ab.1]) (aj 0) am h)
        exact Turn.rp (.cons rfl (.cons rfl (.nil _))) (.c .z (.c .z (.c .z (.n _))))
      · refine T.condF rfl ad ?_
        refine T.by_turn ?_ (r4r_alternative_j1_T K rec_r4r_alternative hrec_r4r_alternative bx0 b j p q v w y ((a 1).1 0) aa h)
        exact Turn.rp (.cons rfl (.cons rfl (.nil _))) (.c .z (.c .z (.c .z (.n _))))
    · refine DGG.off l rfl rfl rfl rfl rfl (fun _ => rfl) ?_
      refine DGG.off l rfl rfl rfl rfl rfl (fun _ => rfl) ?_
      refine DGG.off l rfl rfl rfl rfl rfl (fun _ => rfl) ?_
      refine DGG.off l rfl rfl rfl rfl rfl (fun _ => rfl) ?_
      refine DGG.off l rfl rfl rfl rfl rfl (fun _ => rfl) ?_
      refine DGG.off l rfl rfl rfl rfl rfl (fun _ => rfl) ?_
      refine DGG.off l rfl rfl rfl rfl rfl (fun _ => rfl) ?_
      refine DGG.off l rfl rfl rfl rfl rfl (fun _ => rfl) ?_
      refine DGG.off l rfl rfl rfl rfl rfl (fun _ => rfl) ?_
      refine DGG.off l rfl rfl rfl rfl rfl (fun _ => rfl) ?_
      refine DGG.step (c := fun a => ⟨some 21, .bool false, [(10, .bool (!m))], [], []⟩) [] (fun _ _ _ => rfl) (fun a t hm => One.step rfl (.free rfl) (OpT.pickF rfl (dl rfl rfl) hm.s0 l rfl ⟨u0, rfl⟩)) (fun a => Ct.mo rfl rfl) ?_
      refine DGG.fin (s1 := fun a => ⟨[(0, .ptr bx0 0), (3, .c (.ex aa)), (11, .tup []), (12, .tup []), (13, .tup []), (14, .tup []), (15, .tup []), (16, .tup []), (17, .tup []), (18, .tup []), (19, .tup []), (20, .tup []), (21, .bool false)], [(o88 bx0 b j ((a 1).1 0) p q v), .arrA ((a 1).1 0) 42 9 ((w).map c_aNd), .arrA aa 3 1 (y.map (cI .i64))]⟩) (ms := [0, 1, 3, 7, 15, 31, 63, 127, 15, 271, 783, 1807, 4095, 8191, 16383]) TrydMixed rfl (by kernel_rfl) (by kernel_rfl) (by kernel_rfl) (fun a => by kernel_rfl) (fun a => .cons rfl (.cons rfl (.cons rfl (.cons rfl (.cons rfl (.cons rfl (.cons rfl (.cons rfl (.cons rfl (.cons rfl (.cons rfl (.cons rfl (.cons rfl (.nil _)))))))))))))) (fun _ => rfl) (fun a u hu => (tN (T.by_turn hu ?_)))
      refine T.condF rfl rfl ?_
      refine T.by_turn ?_ (r4r_alternative_j1_T K rec_r4r_alternative hrec_r4r_alternative bx0 b j p q v w y ((a 1).1 0) aa h)
      exact Turn.rp (.cons rfl (.cons rfl (.nil _))) (.c .z (.c .z (.c .z (.n _))))
theorem r4r_alternative_b_T (K : Nat) (rec_r4r_alternative : r4r → Option (Int × r4r)) (hrec_r4r_alternative : r4r_alternative_S rec_r4r_alternative) {x0 : r4r} {bx0 : Nat} {wx0c2 : Value} {r : Int × r4r} (h : r4r_alternative_b K rec_r4r_alternative x0 = some r) : CallG Tryd.prog 48 [.ptr bx0 0] [(o88 bx0 x0.s x0.at_ wx0c2 x0.deep x0.e x0.where_), .arrA wx0c2 42 9 (x0.nodes.map c_aNd)] (fun γ => (.int .i64 r.1)) (fun γ => [(o88 bx0 r.2.s r.2.at_ (γ 0) r.2.deep r.2.e r.2.where_), .arrA (γ 0) 42 9 (r.2.nodes.map c_aNd)]) := by
 refine CallT.intro Tryd.func48 rfl (nb rfl) ?_
 show T Tryd.prog 51 (Code.at [] (codeOf Tryd.f48)) ⟨paramSlots 0 [.ptr bx0 0], [(o88 bx0 x0.s x0.at_ wx0c2 x0.deep x0.e x0.where_), .arrA wx0c2 42 9 (x0.nodes.map c_aNd)]⟩ (r4r_alternative_q bx0 r)
 unfold r4r_alternative_b at h
 refine T.seq (T.rL ?_)
 refine aw rfl ?_
 refine TL'.nil (tN (T.seq (T.rL ?_)))
 refine mw rfl ?_
 obtain ⟨a, b, h⟩ := bind_some h
 refine sp rfl (OpT.callG (is := [0, 1]) (ph := []) rfl (dk rfl) Tryd.func64 rfl rfl (Args.cons rfl Args.nil) (r4r_row_T K rec_r4r_alternative hrec_r4r_alternative (bx0 := bx0) (wx0c2 := wx0c2) b) (.cons rfl rfl (.cons rfl rfl (.nil))) (fun _ => rfl) (fun d => ?_))
 refine nm (.c (.c (.n))) ?_
 refine sp rfl (OpT.buildSlice (elems := ([a.1] : List Int).map (cI .i64)) rfl (dk rfl) ul40 i3 (by decide) rfl (all1 rfl) rfl rfl rfl (lenAll rfl) (by decide) ?_)
 refine aw rfl ?_
 refine TL'.nil (tN ?_)
 refine T.seq ?_
 refine T.block ?_
 refine T.loop ?_
 refine TL.by_turnG (TurnG.ownFull 3 3 rfl) (fun f => ?_)
 refine TL.by_turn ?_ (r4r_alternative_l0_T K rec_r4r_alternative hrec_r4r_alternative bx0 K a.2.s a.2.at_ a.2.deep a.2.e a.2.where_ a.2.nodes [a.1] (d 0) f h)
 exact Turn.rp (.cons rfl (.cons rfl (.nil _))) (.c (.s .z) (.c (.s .z) (.c .z (.n _))))
theorem r4r_alternative_r_T (K : Nat) : ∀ n, r4r_alternative_S (r4r_alternative_r K n) := by
  intro n
  induction n with
  | zero =>
    intro x0 bx0 wx0c2 r h
    cases (show (none : Option (Int × r4r)) = some r from h)
  | succ n ih =>
    intro x0 bx0 wx0c2 r h
    exact r4r_alternative_b_T K (r4r_alternative_r K n) ih h
theorem r4r_alternative_T (K : Nat) {x0 : r4r} {bx0 : Nat} {wx0c2 : Value} {r : Int × r4r} (h : r4r_alternative K x0 = some r) : CallG Tryd.prog 48 [.ptr bx0 0] [(o88 bx0 x0.s x0.at_ wx0c2 x0.deep x0.e x0.where_), .arrA wx0c2 42 9 (x0.nodes.map c_aNd)] (fun γ => (.int .i64 r.1)) (fun γ => [(o88 bx0 r.2.s r.2.at_ (γ 0) r.2.deep r.2.e r.2.where_), .arrA (γ 0) 42 9 (r.2.nodes.map c_aNd)]) := r4r_alternative_r_T K K x0 bx0 wx0c2 r h
abbrev r4_Parse_q (r : (List aNd) × Int × Int) : Exit → St → Prop := retS Tryd.prog Tryd.f25 (fun y t => y = (.tup [.sl false 9 (r.1.map c_aNd), .int .i64 r.2.1, .int .i64 r.2.2]) ∧ t = [])
theorem r4_Parse_j0_T {r : (List aNd) × Int × Int} (K : Nat) (j : ByteArray) (l : Int) (m : Int) (b : Int) (d : Int) (n : List aNd) (a : Nat) (g : Value) (h : r4_Parse_j0 K j l m b d n = some r) : T Tryd.prog 46 (Code.at [1, 1, 1, 1, 1] (codeOf Tryd.f25)) ⟨[(5, .ptr a 0)], [(o88 a j l g m b d), .arrA g 42 9 (n.map c_aNd)]⟩ (r4_Parse_q r) := by
 unfold r4_Parse_j0 at h
 refine T.seq ?_
 refine T.seq (T.rL ?_)
 refine mw rfl ?_
 refine sp rfl (OpT.nilCheck rfl (dk rfl) rfl rfl ?_)
 refine sp rfl (OpT.fieldPtr rfl (dk rfl) ul88 rfl i35 (by decide) rfl ?_)
 refine sp rfl (OpT.lB (i := 0) rfl (dk rfl) ul35 rfl rfl rfl rfl ?_)
 refine sp rfl (OpT.int2 rfl rfl (dk rfl) rfl rfl ?_)
 refine TL'.nil (tN ?_)
 rcases bif_some h with ⟨p, h⟩ | ⟨p, h⟩
 refine T.condT rfl p ?_
 refine T.seq ?_
 refine DG.start ?_
 refine DG.mv rfl rfl rfl rfl rfl rfl ?_
 refine DG.step (c := ⟨some 29, .ptr a 0, [(28, .ptr a 0)], [], []⟩) (fun t hm => One.step rfl (.free rfl) (OpT.nilCheck rfl (dk rfl) hm.s0 rfl rfl)) (Ct.mo rfl rfl) ?_
 refine DG.step (c := ⟨some 30, .ptr a (0 + 5), [(29, .ptr a 0)], [], []⟩) (fun t hm => One.step rfl (.free rfl) (OpT.fieldPtr rfl (dk rfl) ul88 rfl i3 (by decide) hm.s0 rfl)) (Ct.mo rfl rfl) ?_
 refine DG.step (c := ⟨some 31, .int .i64 d, [(30, .ptr a (0 + 5))], [(0, (o88 a j l g m b d))], []⟩) (fun t hm => One.step rfl (.free rfl) (OpT.lB (i := 0) rfl (dk rfl) ul3 rfl hm.s0 hm.o0 rfl rfl)) (Ct.mo rfl rfl) ?_
 refine DG.mv rfl rfl rfl rfl rfl rfl ?_
 refine DG.step (c := ⟨some 33, .ptr a 0, [(32, .ptr a 0)], [], []⟩) (fun t hm => One.step rfl (.free rfl) (OpT.nilCheck rfl (dk rfl) hm.s0 rfl rfl)) (Ct.mo rfl rfl) ?_
 refine DG.step (c := ⟨some 34, .ptr a (0 + 4), [(33, .ptr a 0)], [], []⟩) (fun t hm => One.step rfl (.free rfl) (OpT.fieldPtr rfl (dk rfl) ul88 rfl i35 (by decide) hm.s0 rfl)) (Ct.mo rfl rfl) ?_
 refine DG.step (c := ⟨some 35, .int .i64 b, [(34, .ptr a (0 + 4))], [(0, (o88 a j l g m b d))], []⟩) (fun t hm => One.step rfl (.free rfl) (OpT.lB (i := 0) rfl (dk rfl) ul35 rfl hm.s0 hm.o0 rfl rfl)) (Ct.mo rfl rfl) ?_
 refine DG.step (c := ⟨some 2, .c (.ex (.slice none 0 0)), [], [], []⟩) (fun t hm => One.step rfl (.free rfl) (OpT.assign rfl (dk rfl) rfl rfl)) (Ct.mo rfl rfl) ?_
 refine DG.step (c := ⟨some 3, .int .i64 d, [(31, .int .i64 d)], [], []⟩) (fun t hm => One.step rfl (.free rfl) (OpT.assign rfl (dk rfl) hm.s0 rfl)) (Ct.mo rfl rfl) ?_
 refine DG.step (c := ⟨some 4, .int .i64 b, [(35, .int .i64 b)], [], []⟩) (fun t hm => One.step rfl (.free rfl) (OpT.assign rfl (dk rfl) hm.s0 rfl)) (Ct.mo rfl rfl) ?_
 refine DG.fin (s1 := ⟨[(2, .c (.ex (.slice none 0 0))), (3, .int .i64 d), (4, .int .i64 b)], [(o88 a j l g m b d), .arrA g 42 9 (n.map c_aNd)]⟩) (ms := [0, 1, 3, 7, 0, 16, 48, 112, 0, 271, 1023]) TrydMixed rfl (by kernel_rfl) (by kernel_rfl) (by kernel_rfl) (.cons rfl (.cons rfl (.cons rfl (.nil _)))) rfl (fun u hu => (tN (T.by_turn hu ?_)))
 refine T.ret (thenS_ret ?_)
 refine Fin.turn (Turn.nilSl 2 false 9 rfl) ?_
 exact Fin.done (.cons _ _ _ _ (.tmp 2 _ rfl) (.cons _ _ _ _ (.tmp 3 _ rfl) (.cons _ _ _ _ (.tmp 4 _ rfl) .nil))) (by cases h; exact ⟨rfl, rfl⟩)
 refine T.condF rfl p ?_
 refine T.skip (tN ?_)
 refine T.seq ?_
 refine T.seq (T.rL ?_)
 refine mw rfl ?_
 refine sp rfl (OpT.nilCheck rfl (dk rfl) rfl rfl ?_)
 refine sp rfl (OpT.fieldPtr rfl (dk rfl) ul88 rfl i22 (by decide) rfl ?_)
 refine sp rfl (OpT.thenTurn (OpT.lB (i := 0) rfl (dk rfl) ul22 rfl rfl rfl rfl rfl) (Turn.viewP 39 1 rfl) ?_)
 refine sp rfl (OpT.lenSlM (xs := n) (f := c_aNd) rfl (dk rfl) ul22 rfl ?_)
 refine sp rfl (OpT.int2 rfl rfl (dk rfl) rfl rfl ?_)
 refine TL'.nil (tN ?_)
 rcases bif_some h with ⟨q, h⟩ | ⟨q, h⟩
 refine T.condT rfl q ?_
 refine T.seq (T.rL ?_)
 refine aw rfl ?_
 refine aw rfl ?_
 refine aw rfl ?_
 refine TL'.nil (tN ?_)
 refine T.ret (thenS_ret ?_)
 refine Fin.turn (Turn.nilSl 2 false 9 rfl) ?_
 exact Fin.done (.cons _ _ _ _ (.tmp 2 _ rfl) (.cons _ _ _ _ (.tmp 3 _ rfl) (.cons _ _ _ _ (.tmp 4 _ rfl) .nil))) (by cases h; exact ⟨rfl, rfl⟩)
 refine T.condF rfl q ?_
 refine T.skip (tN ?_)
 refine T.seq (T.rL ?_)
 refine mw rfl ?_
 refine sp rfl (OpT.nilCheck rfl (dk rfl) rfl rfl ?_)
 refine sp rfl (OpT.fieldPtr rfl (dk rfl) ul88 rfl i22 (by decide) rfl ?_)
 refine sp rfl (OpT.lB (i := 0) rfl (dk rfl) ul22 rfl rfl rfl rfl ?_)
 refine aw rfl ?_
 refine aw rfl ?_
 refine aw rfl ?_
 refine TL'.nil (tN ?_)
 refine T.ret ?_
 refine Fin.turn (Turn.view 2 1 rfl rfl) ?_
 exact Fin.done (.cons _ _ _ _ (.tmp 2 _ rfl) (.cons _ _ _ _ (.tmp 3 _ rfl) (.cons _ _ _ _ (.tmp 4 _ rfl) .nil))) (by cases h; exact ⟨rfl, rfl⟩)
theorem r4_Parse_T (K : Nat) {x0 : ByteArray} {r : (List aNd) × Int × Int} (h : r4_Parse K x0 = some r) : CallR Tryd.prog 25 [.str x0] [] (.tup [.sl false 9 (r.1.map c_aNd), .int .i64 r.2.1, .int .i64 r.2.2]) := by
 refine CallT.intro Tryd.func25 rfl (nb rfl) ?_
 show T Tryd.prog 46 (Code.at [] (codeOf Tryd.f25)) ⟨paramSlots 0 [.str x0], []⟩ (r4_Parse_q r)
 unfold r4_Parse at h
 refine T.seq (T.rL ?_)
 refine aw rfl ?_
 refine aw rfl ?_
 refine aw rfl ?_
 refine TL'.nil (tN ?_)
 refine T.seq ?_
 refine T.seq (T.rL ?_)
 refine mw rfl ?_
 refine sp rfl (OpT.lenStr rfl (dk rfl) ul9 rfl ?_)
 refine sp rfl (OpT.int2 rfl rfl (dk rfl) rfl rfl ?_)
 refine TL'.nil (tN ?_)
 rcases bif_some h with ⟨f, h⟩ | ⟨f, h⟩
 refine T.condT rfl f ?_
 refine T.seq (T.rL ?_)
 refine aw rfl ?_
 refine aw rfl ?_
 refine aw rfl ?_
 refine TL'.nil (tN ?_)
 refine T.ret (thenS_ret ?_)
 refine Fin.turn (Turn.nilSl 2 false 9 rfl) ?_
 exact Fin.done (.cons _ _ _ _ (.tmp 2 _ rfl) (.cons _ _ _ _ (.tmp 3 _ rfl) (.cons _ _ _ _ (.tmp 4 _ rfl) .nil))) (by cases h; exact ⟨rfl, rfl⟩)
 refine T.condF rfl f ?_
 refine T.skip (tN ?_)
 refine T.seq (T.rL ?_)
 refine mw rfl ?_
 refine sp rfl (OpT.build (l := [.str x0, .int .i64 (0 : Int), .ex (.slice none 0 0), .int .i64 (0 : Int), .int .i64 (0 : Int), .int .i64 (0 : Int)]) rfl (dk rfl) (built_struct (pl := [(0, 1), (1, 1), (2, 1), (3, 1), (4, 1), (5, 1)]) ul88 i88 rfl) (all1 rfl) rfl rfl ?_)
 refine sp rfl (OpT.boxAgg rfl (dk rfl) rfl (fun d => ?_))
 refine aw rfl ?_
 refine TL'.nil (tN (T.seq (T.rL ?_)))
 refine mw rfl ?_
 refine TL'.turn (Turn.nilA 42 9) ?_
 obtain ⟨a, m, h⟩ := bind_some h
 refine sp rfl (OpT.callG (is := [1, 0]) (ph := []) rfl (dk rfl) Tryd.func48 rfl rfl (Args.cons rfl Args.nil) (r4r_alternative_T K (bx0 := d) (wx0c2 := (nilv 10)) m) (.cons rfl rfl (.cons rfl rfl (.nil))) (fun _ => rfl) (fun p => ?_))
 refine nm (.c (.c (.n))) ?_
 refine TL'.nil (tN ?_)
 refine T.seq ?_
 refine T.seq (T.rL ?_)
 refine mw rfl ?_
 obtain ⟨w, q, h⟩ := bind_some h
 refine sp rfl (OpT.callG (is := [1, 0]) (ph := []) rfl (dk rfl) Tryd.func49 rfl rfl (Args.cons rfl Args.nil) (r4r_ends_T K (bx0 := d) (wx0c2 := (p 0)) q) (.cons rfl rfl (.cons rfl rfl (.nil))) (fun _ => rfl) (fun j => ?_))
 refine nm (.c (.c (.n))) ?_
 refine sp rfl (OpT.not rfl (dk rfl) rfl ?_)
 refine TL'.nil (tN ?_)
 rcases bif_some h with ⟨g, h⟩ | ⟨g, h⟩
 refine T.condT rfl g ?_
 refine T.rL ?_
 refine mw rfl ?_
 refine mw rfl ?_
 refine sp rfl (OpT.nilCheck rfl (dk rfl) rfl rfl ?_)
 refine sp rfl (OpT.fieldPtr rfl (dk rfl) ul88 rfl i3 (by decide) rfl ?_)
 refine sp rfl (OpT.lB (i := 1) rfl (dk rfl) ul3 rfl rfl rfl rfl ?_)
 obtain ⟨b, u, h⟩ := bind_some h
 refine sp rfl (OpT.callG (is := [1, 0]) (ph := []) rfl (dk rfl) Tryd.func50 rfl rfl (Args.cons rfl (Args.cons rfl (Args.cons rfl Args.nil))) (r4r_fail_T K (bx0 := d) (wx0c2 := (j 0)) u) (.cons rfl rfl (.cons rfl rfl (.nil))) (fun _ => rfl) (fun v => ?_))
 refine nm (.c (.c (.n))) ?_
 refine TL'.nil (tN ?_)
 refine T.by_turn ?_ (r4_Parse_j0_T K b.s b.at_ b.deep b.e b.where_ b.nodes d (v 0) h)
 exact Turn.rp (.cons rfl (.nil _)) (.c (.s .z) (.c .z (.n _)))
 refine T.condF rfl g ?_
 refine T.skip (tN ?_)
 refine T.by_turn ?_ (r4_Parse_j0_T K a.2.s a.2.at_ a.2.deep a.2.e a.2.where_ a.2.nodes d (j 0) h)
 exact Turn.rp (.cons rfl (.nil _)) (.c (.s .z) (.c .z (.n _)))
abbrev sy_letter_q (r : Bool) : Exit → St → Prop := retS Tryd.prog Tryd.f73 (fun y t => y = (.bool r) ∧ t = [])
theorem sy_letter_T (K : Nat) {x0 : Int} {r : Bool} (h : sy_letter K x0 = some r) : CallR Tryd.prog 73 [.int .u8 x0] [] (.bool r) := by
 refine CallT.intro Tryd.func73 rfl (nb rfl) ?_
 show T Tryd.prog 21 (Code.at [] (codeOf Tryd.f73)) ⟨paramSlots 0 [.int .u8 x0], []⟩ (sy_letter_q r)
 unfold sy_letter at h
 refine T.seq (T.rL ?_)
 refine aw rfl ?_
 refine TL'.nil (tN (T.seq (T.rL ?_)))
 refine mw rfl ?_
 refine sp rfl (OpT.int2 rfl rfl (dk rfl) rfl rfl ?_)
 refine mw rfl ?_
 rcases bif_some h with ⟨b, h⟩ | ⟨b, h⟩
 refine TL'.step (.on rfl rfl rfl b) (OpT.move rfl (dk rfl) rfl ?_)
 refine TL'.step (.on rfl rfl rfl b) (OpT.int2 rfl rfl (dk rfl) rfl rfl ?_)
 refine sp rfl (OpT.pickT rfl (dk rfl) rfl b rfl ?_)
 refine mw rfl ?_
 rcases bif_some h with ⟨a, h⟩ | ⟨a, h⟩
 refine TL'.pU (.off _ _ _ _ rfl rfl rfl a) (dk rfl) ?_
 refine TL'.pU (.off _ _ _ _ rfl rfl rfl a) (dk rfl) ?_
 refine TL'.pU (.off _ _ _ _ rfl rfl rfl a) (dk rfl) ?_
 refine TL'.pU (.gone _ _ _ rfl rfl rfl) (dk rfl) ?_
 refine TL'.pU (.gone _ _ _ rfl rfl rfl) (dk rfl) ?_
 refine TL'.pU (.off _ _ _ _ rfl rfl rfl a) (dk rfl) ?_
 refine sp rfl (OpT.pickT rfl (dk rfl) rfl a rfl ?_)
 refine mw rfl ?_
 refine TL'.pU (.off _ _ _ _ rfl rfl rfl rfl) (dk rfl) ?_
 refine TL'.pU (.off _ _ _ _ rfl rfl rfl rfl) (dk rfl) ?_
 refine sp rfl (OpT.pickT rfl (dk rfl) rfl rfl rfl ?_)
 refine aw rfl ?_
 refine TL'.nil (tN ?_)
 refine T.ret ?_
 exact Fin.done (.cons _ _ _ _ (.tmp 2 _ rfl) .nil) (by cases h; exact ⟨rfl, rfl⟩)
 refine TL'.step (.on rfl rfl rfl a) (OpT.move rfl (dk rfl) rfl ?_)
 refine TL'.step (.on rfl rfl rfl a) (OpT.int2 rfl rfl (dk rfl) rfl rfl ?_)
 refine TL'.step (.on rfl rfl rfl a) (OpT.move rfl (dk rfl) rfl ?_)
 rcases bif_some h with ⟨c, h⟩ | ⟨c, h⟩
 refine TL'.step (.on rfl rfl rfl c) (OpT.move rfl (dk rfl) rfl ?_)
 refine TL'.step (.on rfl rfl rfl c) (OpT.int2 rfl rfl (dk rfl) rfl rfl ?_)
 refine TL'.step (.on rfl rfl rfl a) (OpT.pickT rfl (dk rfl) rfl c rfl ?_)
 refine sp rfl (OpT.pickF rfl (dk rfl) rfl a rfl ?_)
 refine mw rfl ?_
 rcases bif_some h with ⟨d, h⟩ | ⟨d, h⟩
 refine TL'.pU (.off _ _ _ _ rfl rfl rfl d) (dk rfl) ?_
 refine TL'.pU (.off _ _ _ _ rfl rfl rfl d) (dk rfl) ?_
 refine sp rfl (OpT.pickT rfl (dk rfl) rfl d rfl ?_)
 refine aw rfl ?_
 refine TL'.nil (tN ?_)
 refine T.ret ?_
 exact Fin.done (.cons _ _ _ _ (.tmp 2 _ rfl) .nil) (by cases h; exact ⟨rfl, rfl⟩)
 refine TL'.step (.on rfl rfl rfl d) (OpT.move rfl (dk rfl) rfl ?_)
 refine TL'.step (.on rfl rfl rfl d) (OpT.int2 rfl rfl (dk rfl) rfl rfl ?_)
 refine sp rfl (OpT.pickF rfl (dk rfl) rfl d rfl ?_)
 refine aw rfl ?_
 refine TL'.nil (tN ?_)
 refine T.ret ?_
 exact Fin.done (.cons _ _ _ _ (.tmp 2 _ rfl) .nil) (by cases h; exact ⟨rfl, rfl⟩)
 refine TL'.pU (.off _ _ _ _ rfl rfl rfl c) (dk rfl) ?_
 refine TL'.pU (.off _ _ _ _ rfl rfl rfl c) (dk rfl) ?_
 refine TL'.step (.on rfl rfl rfl a) (OpT.pickF rfl (dk rfl) rfl c rfl ?_)
 refine sp rfl (OpT.pickF rfl (dk rfl) rfl a rfl ?_)
 refine mw rfl ?_
 refine TL'.step (.on rfl rfl rfl rfl) (OpT.move rfl (dk rfl) rfl ?_)
 refine TL'.step (.on rfl rfl rfl rfl) (OpT.int2 rfl rfl (dk rfl) rfl rfl ?_)
 refine sp rfl (OpT.pickF rfl (dk rfl) rfl rfl rfl ?_)
 refine aw rfl ?_
 refine TL'.nil (tN ?_)
 refine T.ret ?_
 exact Fin.done (.cons _ _ _ _ (.tmp 2 _ rfl) .nil) (by cases h; exact ⟨rfl, rfl⟩)
 refine TL'.pU (.off _ _ _ _ rfl rfl rfl b) (dk rfl) ?_
 refine TL'.pU (.off _ _ _ _ rfl rfl rfl b) (dk rfl) ?_
 refine sp rfl (OpT.pickF rfl (dk rfl) rfl b rfl ?_)
 refine mw rfl ?_
 refine TL'.step (.on rfl rfl rfl rfl) (OpT.move rfl (dk rfl) rfl ?_)
 refine TL'.step (.on rfl rfl rfl rfl) (OpT.int2 rfl rfl (dk rfl) rfl rfl ?_)
 refine TL'.step (.on rfl rfl rfl rfl) (OpT.move rfl (dk rfl) rfl ?_)
 rcases bif_some h with ⟨f, h⟩ | ⟨f, h⟩
 refine TL'.step (.on rfl rfl rfl f) (OpT.move rfl (dk rfl) rfl ?_)
 refine TL'.step (.on rfl rfl rfl f) (OpT.int2 rfl rfl (dk rfl) rfl rfl ?_)
 refine TL'.step (.on rfl rfl rfl rfl) (OpT.pickT rfl (dk rfl) rfl f rfl ?_)
 refine sp rfl (OpT.pickF rfl (dk rfl) rfl rfl rfl ?_)
 refine mw rfl ?_
 rcases bif_some h with ⟨g, h⟩ | ⟨g, h⟩
 refine TL'.pU (.off _ _ _ _ rfl rfl rfl g) (dk rfl) ?_
 refine TL'.pU (.off _ _ _ _ rfl rfl rfl g) (dk rfl) ?_
 refine sp rfl (OpT.pickT rfl (dk rfl) rfl g rfl ?_)
 refine aw rfl ?_
 refine TL'.nil (tN ?_)
 refine T.ret ?_
 exact Fin.done (.cons _ _ _ _ (.tmp 2 _ rfl) .nil) (by cases h; exact ⟨rfl, rfl⟩)
 refine TL'.step (.on rfl rfl rfl g) (OpT.move rfl (dk rfl) rfl ?_)
 refine TL'.step (.on rfl rfl rfl g) (OpT.int2 rfl rfl (dk rfl) rfl rfl ?_)
 refine sp rfl (OpT.pickF rfl (dk rfl) rfl g rfl ?_)
 refine aw rfl ?_
 refine TL'.nil (tN ?_)
 refine T.ret ?_
 exact Fin.done (.cons _ _ _ _ (.tmp 2 _ rfl) .nil) (by cases h; exact ⟨rfl, rfl⟩)
 refine TL'.pU (.off _ _ _ _ rfl rfl rfl f) (dk rfl) ?_
 refine TL'.pU (.off _ _ _ _ rfl rfl rfl f) (dk rfl) ?_
 refine TL'.step (.on rfl rfl rfl rfl) (OpT.pickF rfl (dk rfl) rfl f rfl ?_)
 refine sp rfl (OpT.pickF rfl (dk rfl) rfl rfl rfl ?_)
 refine mw rfl ?_
 refine TL'.step (.on rfl rfl rfl rfl) (OpT.move rfl (dk rfl) rfl ?_)
 refine TL'.step (.on rfl rfl rfl rfl) (OpT.int2 rfl rfl (dk rfl) rfl rfl ?_)
 refine sp rfl (OpT.pickF rfl (dk rfl) rfl rfl rfl ?_)
 refine aw rfl ?_
 refine TL'.nil (tN ?_)
 refine T.ret ?_
 exact Fin.done (.cons _ _ _ _ (.tmp 2 _ rfl) .nil) (by cases h; exact ⟨rfl, rfl⟩)
end Go.Rv

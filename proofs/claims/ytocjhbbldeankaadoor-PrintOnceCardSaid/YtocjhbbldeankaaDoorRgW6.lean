/- Each function computes what its plain text says: printed by a program of ours. -/
import Derived.Test.YtocjhbbldeankaaDoorRgW5
namespace Go.Rv
open Go.Proofs
set_option maxRecDepth 100000
set_option maxHeartbeats 4000000
set_option linter.unusedVariables false
abbrev syp_times_q (bx0 : Nat) (r : Int × Int × Bool × syp) : Exit → St → Prop := retS Tryd.prog Tryd.f89 (fun y t => ∃ γ : Nat → Value, y = (.tup [.int .i64 r.1, .int .i64 r.2.1, .bool r.2.2.1]) ∧ t = [(o74 bx0 r.2.2.2.reader.s r.2.2.2.reader.at_ r.2.2.2.reader.where_ r.2.2.2.reader.e (γ 0) r.2.2.2.deep), .arrA (γ 0) 42 9 (r.2.2.2.nodes.map c_aNd)])
abbrev syp_times_qs11 (bx0 : Nat) (r : Int × Int × Bool × syp) : Exit → St → Prop := thenS (fun s' => T Tryd.prog 40 (Code.at [1, 1] (codeOf Tryd.f89)) s' ((syp_times_q bx0 r))) ((syp_times_q bx0 r))
abbrev syp_times_qb0x11 (bx0 : Nat) (r : Int × Int × Bool × syp) : Exit → St → Prop := inBlockS 0 ((syp_times_qs11 bx0 r))
theorem syp_times_j0_T {r : Int × Int × Bool × syp} (K : Nat) (bx0 : Nat) (b : ByteArray) (c : Int) (d : Int) (f : Int) (g : Int) (i : List aNd) (a : Value) (h : syp_times_j0 K b c d f g i = some r) : T Tryd.prog 40 (Code.at [1, 0, 0, 1, 1, 1, 1, 1, 1, 1, 1] (codeOf Tryd.f89)) ⟨[], [(o74 bx0 b c d f a g), .arrA a 42 9 (i.map c_aNd)]⟩ (syp_times_qb0x11 bx0 r) := by
 unfold syp_times_j0 at h
 refine T.skip (inBlock_normal (tN ?_))
 refine T.seq (T.rL ?_)
 refine aw rfl ?_
 refine aw rfl ?_
 refine aw rfl ?_
 refine TL'.nil (tN ?_)
 refine T.ret ?_
 exact Fin.doneK (.cons _ _ _ _ (.tmp 2 _ rfl) (.cons _ _ _ _ (.tmp 3 _ rfl) (.cons _ _ _ _ (.tmp 4 _ rfl) .nil))) (.cons 0 rfl (.cons 0 rfl (.nil _))) (by cases h; exact ⟨gl [a], rfl, rfl⟩)
theorem syp_times_T (K : Nat) {x0 : syp} {bx0 : Nat} {wx0c1 : Value} {r : Int × Int × Bool × syp} (h : syp_times K x0 = some r) : CallG Tryd.prog 89 [.ptr bx0 0] [(o74 bx0 x0.reader.s x0.reader.at_ x0.reader.where_ x0.reader.e wx0c1 x0.deep), .arrA wx0c1 42 9 (x0.nodes.map c_aNd)] (fun γ => (.tup [.int .i64 r.1, .int .i64 r.2.1, .bool r.2.2.1])) (fun γ => [(o74 bx0 r.2.2.2.reader.s r.2.2.2.reader.at_ r.2.2.2.reader.where_ r.2.2.2.reader.e (γ 0) r.2.2.2.deep), .arrA (γ 0) 42 9 (r.2.2.2.nodes.map c_aNd)]) := by
 refine CallT.intro Tryd.func89 rfl (nb rfl) ?_
 show T Tryd.prog 40 (Code.at [] (codeOf Tryd.f89)) ⟨paramSlots 0 [.ptr bx0 0], [(o74 bx0 x0.reader.s x0.reader.at_ x0.reader.where_ x0.reader.e wx0c1 x0.deep), .arrA wx0c1 42 9 (x0.nodes.map c_aNd)]⟩ (syp_times_q bx0 r)
 unfold syp_times at h
 refine T.seq (T.rL ?_)
 refine aw rfl ?_
 refine aw rfl ?_
 refine aw rfl ?_
 refine TL'.nil (tN ?_)
 refine T.seq ?_
 refine T.block ?_
 refine T.seq (T.rL ?_)
 refine mw rfl ?_
 refine sp rfl (OpT.nilCheck rfl (dk rfl) rfl rfl ?_)
 refine sp rfl (OpT.fP rfl (dk rfl) ul74 rfl i72 (by decide) rfl ?_)
 obtain ⟨ad, u, h⟩ := bind_some h
 refine sp rfl (OpT.callG (is := [0, 1]) (ph := []) rfl (dk rfl) Tryd.func58 rfl rfl (Args.cons rfl (Args.cons rfl Args.nil)) (syr_skip_T K (bx0 := bx0) (wx0c1 := wx0c1) u) (.cons rfl rfl (.cons rfl rfl (.nil))) (fun _ => rfl) (fun j => ?_))
 refine nm (.c (.c (.n))) ?_
 refine aw rfl ?_
 refine TL'.nil (tN ?_)
 rcases bif_some h with ⟨d, h⟩ | ⟨d, h⟩
 refine T.condT rfl d ?_
 refine T.seq (T.rL ?_)
 refine aw rfl ?_
 refine aw rfl ?_
 refine aw rfl ?_
 refine TL'.nil (tN ?_)
 refine T.ret (inBlock_ret (thenS_ret ?_))
 exact Fin.doneK (.cons _ _ _ _ (.tmp 2 _ rfl) (.cons _ _ _ _ (.tmp 3 _ rfl) (.cons _ _ _ _ (.tmp 4 _ rfl) .nil))) (.cons 0 rfl (.cons 0 rfl (.nil _))) (by cases h; exact ⟨gl [j 0], rfl, rfl⟩)
 refine T.condF rfl d ?_
 refine T.seq (T.rL ?_)
 refine mw rfl ?_
 refine sp rfl (OpT.nilCheck rfl (dk rfl) rfl rfl ?_)
 refine sp rfl (OpT.fP rfl (dk rfl) ul74 rfl i72 (by decide) rfl ?_)
 obtain ⟨af, v, h⟩ := bind_some h
 refine sp rfl (OpT.callG (is := [0, 1]) (ph := []) rfl (dk rfl) Tryd.func58 rfl rfl (Args.cons rfl (Args.cons rfl Args.nil)) (syr_skip_T K (bx0 := bx0) (wx0c1 := (j 0)) v) (.cons rfl rfl (.cons rfl rfl (.nil))) (fun _ => rfl) (fun l => ?_))
 refine nm (.c (.c (.n))) ?_
 refine aw rfl ?_
 refine TL'.nil (tN ?_)
 rcases bif_some h with ⟨f, h⟩ | ⟨f, h⟩
 refine T.condT rfl f ?_
 refine T.seq (T.rL ?_)
 refine aw rfl ?_
 refine aw rfl ?_
 refine aw rfl ?_
 refine TL'.nil (tN ?_)
 refine T.ret (inBlock_ret (thenS_ret ?_))
 exact Fin.doneK (.cons _ _ _ _ (.tmp 2 _ rfl) (.cons _ _ _ _ (.tmp 3 _ rfl) (.cons _ _ _ _ (.tmp 4 _ rfl) .nil))) (.cons 0 rfl (.cons 0 rfl (.nil _))) (by cases h; exact ⟨gl [l 0], rfl, rfl⟩)
 refine T.condF rfl f ?_
 refine T.seq (T.rL ?_)
 refine mw rfl ?_
 refine sp rfl (OpT.nilCheck rfl (dk rfl) rfl rfl ?_)
 refine sp rfl (OpT.fP rfl (dk rfl) ul74 rfl i72 (by decide) rfl ?_)
 obtain ⟨a, w, h⟩ := bind_some h
 refine sp rfl (OpT.callG (is := [0, 1]) (ph := []) rfl (dk rfl) Tryd.func58 rfl rfl (Args.cons rfl (Args.cons rfl Args.nil)) (syr_skip_T K (bx0 := bx0) (wx0c1 := (l 0)) w) (.cons rfl rfl (.cons rfl rfl (.nil))) (fun _ => rfl) (fun m => ?_))
 refine nm (.c (.c (.n))) ?_
 refine aw rfl ?_
 refine TL'.nil (tN ?_)
 rcases bif_some h with ⟨g, h⟩ | ⟨g, h⟩
 refine T.condT rfl g ?_
 refine T.seq (T.rL ?_)
 refine aw rfl ?_
 refine aw rfl ?_
 refine aw rfl ?_
 refine TL'.nil (tN ?_)
 refine T.ret (inBlock_ret (thenS_ret ?_))
 exact Fin.doneK (.cons _ _ _ _ (.tmp 2 _ rfl) (.cons _ _ _ _ (.tmp 3 _ rfl) (.cons _ _ _ _ (.tmp 4 _ rfl) .nil))) (.cons 0 rfl (.cons 0 rfl (.nil _))) (by cases h; exact ⟨gl [m 0], rfl, rfl⟩)
 refine T.condF rfl g ?_
 refine T.seq (T.rL ?_)
 refine mw rfl ?_
 refine sp rfl (OpT.nilCheck rfl (dk rfl) rfl rfl ?_)
 refine sp rfl (OpT.fP rfl (dk rfl) ul74 rfl i72 (by decide) rfl ?_)
 obtain ⟨ag, y, h⟩ := bind_some h
 refine sp rfl (OpT.callG (is := [0, 1]) (ph := []) rfl (dk rfl) Tryd.func77 rfl rfl (Args.cons rfl (Args.cons rfl Args.nil)) (syr_is_T K (bx0 := bx0) (wx0c1 := (m 0)) y) (.cons rfl rfl (.cons rfl rfl (.nil))) (fun _ => rfl) (fun p => ?_))
 refine nm (.c (.c (.n))) ?_
 refine mw rfl ?_
 rcases bif_some h with ⟨b, h⟩ | ⟨b, h⟩
 refine TL'.step (.on rfl rfl rfl b) (OpT.move rfl (dk rfl) rfl ?_)
 refine TL'.step (.on rfl rfl rfl b) (OpT.nilCheck rfl (dk rfl) rfl rfl ?_)
 refine TL'.step (.on rfl rfl rfl b) (OpT.fP rfl (dk rfl) ul74 rfl i72 (by decide) rfl ?_)
 obtain ⟨ai, aa, h⟩ := bind_some h
 refine TL'.step (.on rfl rfl rfl b) (OpT.callG (is := [0, 1]) (ph := []) rfl (dk rfl) Tryd.func97 rfl rfl (Args.cons rfl (Args.cons rfl Args.nil)) (syr_digit_T K (bx0 := bx0) (wx0c1 := (p 0)) aa) (.cons rfl rfl (.cons rfl rfl (.nil))) (fun _ => rfl) (fun q => ?_))
 refine nm (.c (.c (.n))) ?_
 refine sp rfl (OpT.pickT rfl (dk rfl) rfl b rfl ?_)
 refine aw rfl ?_
 refine TL'.nil (tN ?_)
 rcases bif_some h with ⟨i, h⟩ | ⟨i, h⟩
 refine T.condT rfl i ?_
 refine T.seq (T.rL ?_)
 refine mw rfl ?_
 refine sp rfl (OpT.nilCheck rfl (dk rfl) rfl rfl ?_)
 refine sp rfl (OpT.fP rfl (dk rfl) ul74 rfl i72 (by decide) rfl ?_)
 obtain ⟨aj, ab, h⟩ := bind_some h
 refine sp rfl (OpT.callG (is := [0, 1]) (ph := []) rfl (dk rfl) Tryd.func100 rfl rfl (Args.cons rfl Args.nil) (syr_bounds_T K (bx0 := bx0) (wx0c1 := (q 0)) ab) (.cons rfl rfl (.cons rfl rfl (.nil))) (fun _ => rfl) (fun ac => ?_))
 refine nm (.c (.c (.n))) ?_
 refine mw rfl ?_
 refine sp rfl (OpT.extract rfl (dk rfl) rfl rfl ?_)
 refine sp rfl (OpT.extract rfl (dk rfl) rfl rfl ?_)
 refine aw rfl ?_
 refine aw rfl ?_
 refine TL'.nil (tN (T.seq (T.rL ?_)))
 refine mw rfl ?_
 refine mw rfl ?_
 refine aw rfl ?_
 refine aw rfl ?_
 refine aw rfl ?_
 refine TL'.nil (tN ?_)
 refine T.ret (inBlock_ret (thenS_ret ?_))
 exact Fin.doneK (.cons _ _ _ _ (.tmp 2 _ rfl) (.cons _ _ _ _ (.tmp 3 _ rfl) (.cons _ _ _ _ (.tmp 4 _ rfl) .nil))) (.cons 0 rfl (.cons 0 rfl (.nil _))) (by cases h; exact ⟨gl [ac 0], rfl, rfl⟩)
 refine T.condF rfl i ?_
 refine T.by_turn ?_ (syp_times_j0_T K bx0 a.2.reader.s a.2.reader.at_ a.2.reader.where_ a.2.reader.e a.2.deep a.2.nodes (q 0) h)
 exact Turn.rp (.nil _) (.c .z (.c .z (.n _)))
 refine TL'.pU (.off _ _ _ _ rfl rfl rfl b) (dk rfl) ?_
 refine TL'.pU (.off _ _ _ _ rfl rfl rfl b) (dk rfl) ?_
 refine TL'.pU (.off _ _ _ _ rfl rfl rfl b) (dk rfl) ?_
 refine TL'.pU (.off _ _ _ _ rfl rfl rfl b) (dk rfl) ?_
 refine sp rfl (OpT.pickF rfl (dk rfl) rfl b rfl ?_)
 refine aw rfl ?_
 refine TL'.nil (tN ?_)
 refine T.condF rfl rfl ?_
 refine T.by_turn ?_ (syp_times_j0_T K bx0 a.2.reader.s a.2.reader.at_ a.2.reader.where_ a.2.reader.e a.2.deep a.2.nodes (p 0) h)
 exact Turn.rp (.nil _) (.c .z (.c .z (.n _)))
abbrev syp_item_q (bx0 : Nat) (r : Int × syp) : Exit → St → Prop := retS Tryd.prog Tryd.f75 (fun y t => ∃ γ : Nat → Value, y = (.int .i64 r.1) ∧ t = [(o74 bx0 r.2.reader.s r.2.reader.at_ r.2.reader.where_ r.2.reader.e (γ 0) r.2.deep), .arrA (γ 0) 42 9 (r.2.nodes.map c_aNd)])
abbrev syp_item_qb0x (bx0 : Nat) (r : Int × syp) : Exit → St → Prop := inBlockS 0 ((syp_item_q bx0 r))
theorem syp_item_l0_T {r : Int × syp} (K : Nat) (rec_syp_alternative : syp → Option (Int × syp)) (hrec_syp_alternative : syp_alternative_S rec_syp_alternative) (bx0 : Nat) : ∀ (k : Nat), ∀ (a : Int) (g : ByteArray) (i : Int) (j : Int) (m : Int) (p : Int) (q : List aNd) (f : Value), syp_item_l0 K rec_syp_alternative k a g i j m p q = some r → TL Tryd.prog 25 (Code.at [1, 1, 0, 0] (codeOf Tryd.f75)) ⟨[(0, .ptr bx0 0), (3, .int .i64 a)], [(o74 bx0 g i j m f p), .arrA f 42 9 (q.map c_aNd)]⟩ (syp_item_qb0x bx0 r) := by
  intro k
  induction k with
  | zero =>
    intro a g i j m p q f h
    cases (show (none : Option (Int × syp)) = some r from h)
  | succ k ih =>
    intro a g i j m p q f h
    rw [syp_item_l0] at h
    refine TL.round ?_
    refine T.block ?_
    refine T.seq ?_
    refine T.rL ?_
    refine mv rfl rfl rfl rfl rfl ?_
    obtain ⟨d, w, h⟩ := bind_some h
    refine sp rfl (OpT.callG (is := [0, 1]) (ph := []) rfl (dl rfl rfl) Tryd.func89 rfl rfl (Args.cons rfl Args.nil) (syp_times_T K (bx0 := bx0) (wx0c1 := f) w) (.cons rfl rfl (.cons rfl rfl (.nil))) (fun _ => rfl) (fun v => ?_))
    refine nm (.c (.c (.n))) ?_
    refine mv rfl rfl rfl rfl rfl ?_
    refine sp rfl (OpT.extract rfl (dl rfl rfl) rfl rfl ?_)
    refine sp rfl (OpT.extract rfl (dl rfl rfl) rfl rfl ?_)
    refine sp rfl (OpT.extract rfl (dl rfl rfl) rfl rfl ?_)
    refine asg rfl rfl rfl rfl rfl ?_
    refine asg rfl rfl rfl rfl rfl ?_
    refine asg rfl rfl rfl rfl rfl ?_
    refine TL'.nil (tN ?_)
    refine T.seq ?_
    refine T.seq ?_
    refine T.rL ?_
    refine mv rfl rfl rfl rfl rfl ?_
    refine sp rfl (OpT.not rfl (dl rfl rfl) rfl ?_)
    refine TL'.nil (tN ?_)
    rcases bif_some h with ⟨u, h⟩ | ⟨u, h⟩
    · refine T.condT rfl u ?_
      refine T.seq ?_
      refine T.rL ?_
      refine mv rfl rfl rfl rfl rfl ?_
      refine asg rfl rfl rfl rfl rfl ?_
      refine TL'.nil (tN ?_)
      refine T.ret (thenS_ret (inBlock_ret (thenS_ret (inBlock_ret ?_))))
      exact Fin.doneK (.cons _ _ _ _ (.tmp 2 _ rfl) .nil) (.cons 0 rfl (.cons 0 rfl (.nil _))) (by cases h; exact ⟨gl [v 0], rfl, rfl⟩)
    · refine T.condF rfl u ?_
      refine T.skip (tN ?_)
      refine T.rL ?_
      refine mv rfl rfl rfl rfl rfl ?_
      refine mv rfl rfl rfl rfl rfl ?_
      refine sp rfl (OpT.buildSlice (elems := ([a] : List Int).map (cI .i64)) rfl (dl rfl rfl) Tryd.underlying40 i3 (by decide) rfl (all1 rfl) rfl rfl rfl (lenAll rfl) (by decide) ?_)
      refine mv rfl rfl rfl rfl rfl ?_
      refine mv rfl rfl rfl rfl rfl ?_
      refine sp rfl (OpT.thenTurn (OpT.build (l := [.int .u8 (5 : Int), .int .u64 (Arr4.mk 0 0 0 0).a0, .int .u64 (Arr4.mk 0 0 0 0).a1, .int .u64 (Arr4.mk 0 0 0 0).a2, .int .u64 (Arr4.mk 0 0 0 0).a3, .sl true 1 ([a].map (cI .i64)), .int .i64 d.1, .int .i64 d.2.1, .str (⟨#[]⟩ : ByteArray)]) rfl (dl rfl rfl) (built_struct (pl := [(0, 1), (1, 4), (5, 1), (6, 1), (7, 1), (8, 1)]) Tryd.underlying42 i42 rfl) (all1 rfl) rfl rfl rfl) (Turn.weakSlotP 23 (l := [.int .u8 (5 : Int), .int .u64 (Arr4.mk 0 0 0 0).a0, .int .u64 (Arr4.mk 0 0 0 0).a1, .int .u64 (Arr4.mk 0 0 0 0).a2, .int .u64 (Arr4.mk 0 0 0 0).a3, .sl true 1 ([a].map (cI .i64)), .int .i64 d.1, .int .i64 d.2.1, .str (⟨#[]⟩ : ByteArray)]) (l' := [.int .u8 (5 : Int), .int .u64 (Arr4.mk 0 0 0 0).a0, .int .u64 (Arr4.mk 0 0 0 0).a1, .int .u64 (Arr4.mk 0 0 0 0).a2, .int .u64 (Arr4.mk 0 0 0 0).a3, .sl false 1 ([a].map (cI .i64)), .int .i64 d.1, .int .i64 d.2.1, .str (⟨#[]⟩ : ByteArray)]) (.cons (.same _) (.cons (.same _) (.cons (.same _) (.cons (.same _) (.cons (.same _) (.cons (.full _ _ _) (.cons (.same _) (.cons (.same _) (.cons (.same _) (.refl _))))))))))) ?_)
      obtain ⟨b, y, h⟩ := bind_some h
      refine sp rfl (OpT.callG (is := [0, 1]) (ph := []) rfl (dl rfl rfl) Tryd.func76 rfl rfl (Args.cons rfl (Args.cons rfl Args.nil)) (syp_put_T K (bx0 := bx0) (wx0c1 := (v 0)) y) (.cons rfl rfl (.cons rfl rfl (.nil))) (fun _ => rfl) (fun aa => ?_))
      refine nm (.c (.c (.n))) ?_
      refine asg rfl rfl rfl rfl rfl ?_
      refine TL'.nil (inBlock_normal (tN ?_))
      refine TL.by_turn ?_ (ih b.1 b.2.reader.s b.2.reader.at_ b.2.reader.where_ b.2.reader.e b.2.deep b.2.nodes (aa 0) h)
      exact Turn.rp (.cons rfl (.cons rfl (.nil _))) (.c .z (.c .z (.n _)))
theorem syp_item_T (K : Nat) (rec_syp_alternative : syp → Option (Int × syp)) (hrec_syp_alternative : syp_alternative_S rec_syp_alternative) {x0 : syp} {bx0 : Nat} {wx0c1 : Value} {r : Int × syp} (h : syp_item K rec_syp_alternative x0 = some r) : CallG Tryd.prog 75 [.ptr bx0 0] [(o74 bx0 x0.reader.s x0.reader.at_ x0.reader.where_ x0.reader.e wx0c1 x0.deep), .arrA wx0c1 42 9 (x0.nodes.map c_aNd)] (fun γ => (.int .i64 r.1)) (fun γ => [(o74 bx0 r.2.reader.s r.2.reader.at_ r.2.reader.where_ r.2.reader.e (γ 0) r.2.deep), .arrA (γ 0) 42 9 (r.2.nodes.map c_aNd)]) := by
 refine CallT.intro Tryd.func75 rfl (nb rfl) ?_
 show T Tryd.prog 25 (Code.at [] (codeOf Tryd.f75)) ⟨paramSlots 0 [.ptr bx0 0], [(o74 bx0 x0.reader.s x0.reader.at_ x0.reader.where_ x0.reader.e wx0c1 x0.deep), .arrA wx0c1 42 9 (x0.nodes.map c_aNd)]⟩ (syp_item_q bx0 r)
 unfold syp_item at h
 refine T.seq (T.rL ?_)
 refine aw rfl ?_
 refine TL'.nil (tN (T.seq (T.rL ?_)))
 refine mw rfl ?_
 obtain ⟨a, b, h⟩ := bind_some h
 refine sp rfl (OpT.callG (is := [0, 1]) (ph := []) rfl (dk rfl) Tryd.func88 rfl rfl (Args.cons rfl Args.nil) (syp_atom_T K rec_syp_alternative hrec_syp_alternative (bx0 := bx0) (wx0c1 := wx0c1) b) (.cons rfl rfl (.cons rfl rfl (.nil))) (fun _ => rfl) (fun d => ?_))
 refine nm (.c (.c (.n))) ?_
 refine aw rfl ?_
 refine TL'.nil (tN ?_)
 refine T.block ?_
 refine T.loop ?_
 refine TL.by_turn ?_ (syp_item_l0_T K rec_syp_alternative hrec_syp_alternative bx0 K a.1 a.2.reader.s a.2.reader.at_ a.2.reader.where_ a.2.reader.e a.2.deep a.2.nodes (d 0) h)
 exact Turn.rp (.cons rfl (.cons rfl (.nil _))) (.c .z (.c .z (.n _)))
abbrev syp_join_q (bx0 : Nat) (r : Int × syp) : Exit → St → Prop := retS Tryd.prog Tryd.f59 (fun y t => ∃ γ : Nat → Value, y = (.int .i64 r.1) ∧ t = [(o74 bx0 r.2.reader.s r.2.reader.at_ r.2.reader.where_ r.2.reader.e (γ 0) r.2.deep), .arrA (γ 0) 42 9 (r.2.nodes.map c_aNd)])
theorem syp_join_T (K : Nat) {x0 : syp} {x1 : Int} {x2 : List Int} {bx0 : Nat} {wx0c1 : Value} {flx2 : Bool} {r : Int × syp} (h : syp_join K x0 x1 x2 = some r) : CallG Tryd.prog 59 [.ptr bx0 0, .int .u8 x1, .sl flx2 1 (x2.map (cI .i64))] [(o74 bx0 x0.reader.s x0.reader.at_ x0.reader.where_ x0.reader.e wx0c1 x0.deep), .arrA wx0c1 42 9 (x0.nodes.map c_aNd)] (fun γ => (.int .i64 r.1)) (fun γ => [(o74 bx0 r.2.reader.s r.2.reader.at_ r.2.reader.where_ r.2.reader.e (γ 0) r.2.deep), .arrA (γ 0) 42 9 (r.2.nodes.map c_aNd)]) := by
 refine CallT.intro Tryd.func59 rfl (nb rfl) ?_
 show T Tryd.prog 18 (Code.at [] (codeOf Tryd.f59)) ⟨paramSlots 0 [.ptr bx0 0, .int .u8 x1, .sl flx2 1 (x2.map (cI .i64))], [(o74 bx0 x0.reader.s x0.reader.at_ x0.reader.where_ x0.reader.e wx0c1 x0.deep), .arrA wx0c1 42 9 (x0.nodes.map c_aNd)]⟩ (syp_join_q bx0 r)
 unfold syp_join at h
 refine T.seq (T.rL ?_)
 refine aw rfl ?_
 refine TL'.nil (tN ?_)
 refine T.seq ?_
 refine T.seq (T.rL ?_)
 refine mw rfl ?_
 refine sp rfl (OpT.lenSlM (xs := x2) (f := (cI .i64)) rfl (dk rfl) ul40 rfl ?_)
 refine sp rfl (OpT.int2 rfl rfl (dk rfl) rfl rfl ?_)
 refine TL'.nil (tN ?_)
 rcases bif_some h with ⟨a, h⟩ | ⟨a, h⟩
 refine T.condT rfl a ?_
 refine T.seq (T.rL ?_)
 refine mw rfl ?_
 obtain ⟨b, d, h⟩ := bind_some h
 refine sp rfl (OpT.indexSlM (xs := x2) (f := (cI .i64)) (v := b) rfl (dk rfl) ul40 i3 rfl rfl d ?_)
 refine sp rfl (OpT.loadRef rfl (dk rfl) ul3 rfl rfl rfl ?_)
 refine aw rfl ?_
 refine TL'.nil (tN ?_)
 refine T.ret (thenS_ret ?_)
 exact Fin.doneK (.cons _ _ _ _ (.tmp 6 _ rfl) .nil) (.cons 0 rfl (.cons 0 rfl (.nil _))) (by cases h; exact ⟨gl [wx0c1], rfl, rfl⟩)
 refine T.condF rfl a ?_
 refine T.skip (tN ?_)
 refine T.seq (T.rL ?_)
 refine mw rfl ?_
 refine mw rfl ?_
 refine mw rfl ?_
 refine sp rfl (OpT.thenTurn (OpT.build (l := [.int .u8 x1, .int .u64 (Arr4.mk 0 0 0 0).a0, .int .u64 (Arr4.mk 0 0 0 0).a1, .int .u64 (Arr4.mk 0 0 0 0).a2, .int .u64 (Arr4.mk 0 0 0 0).a3, .sl flx2 1 (x2.map (cI .i64)), .int .i64 (0 : Int), .int .i64 (0 : Int), .str (⟨#[]⟩ : ByteArray)]) rfl (dk rfl) (built_struct (pl := [(0, 1), (1, 4), (5, 1), (6, 1), (7, 1), (8, 1)]) ul42 i42 rfl) (all1 rfl) rfl rfl rfl) (Turn.weakSlotP 16 (l := [.int .u8 x1, .int .u64 (Arr4.mk 0 0 0 0).a0, .int .u64 (Arr4.mk 0 0 0 0).a1, .int .u64 (Arr4.mk 0 0 0 0).a2, .int .u64 (Arr4.mk 0 0 0 0).a3, .sl flx2 1 (x2.map (cI .i64)), .int .i64 (0 : Int), .int .i64 (0 : Int), .str (⟨#[]⟩ : ByteArray)]) (l' := [.int .u8 x1, .int .u64 (Arr4.mk 0 0 0 0).a0, .int .u64 (Arr4.mk 0 0 0 0).a1, .int .u64 (Arr4.mk 0 0 0 0).a2, .int .u64 (Arr4.mk 0 0 0 0).a3, .sl false 1 (x2.map (cI .i64)), .int .i64 (0 : Int), .int .i64 (0 : Int), .str (⟨#[]⟩ : ByteArray)]) (.cons (.same _) (.cons (.same _) (.cons (.same _) (.cons (.same _) (.cons (.same _) (.cons (.full _ _ _) (.cons (.same _) (.cons (.same _) (.cons (.same _) (.refl _))))))))))) ?_)
 obtain ⟨j, g, h⟩ := bind_some h
 refine sp rfl (OpT.callG (is := [0, 1]) (ph := []) rfl (dk rfl) Tryd.func76 rfl rfl (Args.cons rfl (Args.cons rfl Args.nil)) (syp_put_T K (bx0 := bx0) (wx0c1 := wx0c1) g) (.cons rfl rfl (.cons rfl rfl (.nil))) (fun _ => rfl) (fun i => ?_))
 refine nm (.c (.c (.n))) ?_
 refine aw rfl ?_
 refine TL'.nil (tN ?_)
 refine T.ret ?_
 exact Fin.doneK (.cons _ _ _ _ (.tmp 6 _ rfl) .nil) (.cons 0 rfl (.cons 0 rfl (.nil _))) (by cases h; exact ⟨gl [i 0], rfl, rfl⟩)
abbrev syp_row_q (bx0 : Nat) (r : Int × syp) : Exit → St → Prop := retS Tryd.prog Tryd.f57 (fun y t => ∃ γ : Nat → Value, y = (.int .i64 r.1) ∧ t = [(o74 bx0 r.2.reader.s r.2.reader.at_ r.2.reader.where_ r.2.reader.e (γ 0) r.2.deep), .arrA (γ 0) 42 9 (r.2.nodes.map c_aNd)])
abbrev syp_row_qs111 (bx0 : Nat) (r : Int × syp) : Exit → St → Prop := thenS (fun s' => T Tryd.prog 37 (Code.at [1, 1, 1] (codeOf Tryd.f57)) s' ((syp_row_q bx0 r))) ((syp_row_q bx0 r))
abbrev syp_row_qb0x111 (bx0 : Nat) (r : Int × syp) : Exit → St → Prop := inBlockS 0 ((syp_row_qs111 bx0 r))
abbrev syp_row_ql1100 (bx0 : Nat) (r : Int × syp) : Exit → St → Prop := thenS (fun s' => TL Tryd.prog 37 (Code.at [1, 1, 0, 0, 0] (codeOf Tryd.f57)) s' ((syp_row_qb0x111 bx0 r))) ((syp_row_qb0x111 bx0 r))
abbrev syp_row_qb1_0x1100 (bx0 : Nat) (r : Int × syp) : Exit → St → Prop := inBlockS 1 ((syp_row_ql1100 bx0 r))
abbrev syp_row_qs1100001 (bx0 : Nat) (r : Int × syp) : Exit → St → Prop := thenS (fun s' => T Tryd.prog 37 (Code.at [1, 1, 0, 0, 0, 0, 1] (codeOf Tryd.f57)) s' ((syp_row_qb1_0x1100 bx0 r))) ((syp_row_qb1_0x1100 bx0 r))
theorem syp_row_j1_T {r : Int × syp} (K : Nat) (rec_syp_alternative : syp → Option (Int × syp)) (hrec_syp_alternative : syp_alternative_S rec_syp_alternative) (bx0 : Nat) (g : ByteArray) (j : Int) (m : Int) (p : Int) (q : Int) (s : List aNd) (b : List Int) (a : Value) (u : Value) (h : syp_row_j1 K rec_syp_alternative g j m p q s b = some r) : T Tryd.prog 37 (Code.at [1, 1, 0, 0, 0, 0, 0, 1, 1, 0] (codeOf Tryd.f57)) ⟨[(0, .ptr bx0 0), (3, .c (.ex u))], [(o74 bx0 g j m p a q), .arrA a 42 9 (s.map c_aNd), .arrA u 3 1 (b.map (cI .i64))]⟩ (syp_row_qs1100001 bx0 r) := by
 unfold syp_row_j1 at h
 refine T.exit (thenS_exit (inBlock_other (by decide) (thenS_exit (inBlock_exit (tN ?_)))))
 refine T.seq ?_
 refine T.seq (T.rL ?_)
 refine mw rfl ?_
 refine sp rfl (OpT.lenAM (i := 2) (xs := b) (f := (cI .i64)) rfl (dk rfl) ul40 rfl rfl ?_)
 refine sp rfl (OpT.int2 rfl rfl (dk rfl) rfl rfl ?_)
 refine TL'.nil (tN ?_)
 rcases bif_some h with ⟨d, h⟩ | ⟨d, h⟩
 refine T.condT rfl d ?_
 refine T.seq (T.rL ?_)
 refine mw rfl ?_
 refine sp rfl (OpT.thenTurn (OpT.build (l := [.int .u8 (1 : Int), .int .u64 (Arr4.mk 0 0 0 0).a0, .int .u64 (Arr4.mk 0 0 0 0).a1, .int .u64 (Arr4.mk 0 0 0 0).a2, .int .u64 (Arr4.mk 0 0 0 0).a3, .ex (.slice none 0 0), .int .i64 (0 : Int), .int .i64 (0 : Int), .str (⟨#[]⟩ : ByteArray)]) rfl (dk rfl) (built_struct (pl := [(0, 1), (1, 4), (5, 1), (6, 1), (7, 1), (8, 1)]) ul42 i42 rfl) (all1 rfl) rfl rfl rfl) (Turn.weakSlotP 32 (l := [.int .u8 (1 : Int), .int .u64 (Arr4.mk 0 0 0 0).a0, .int .u64 (Arr4.mk 0 0 0 0).a1, .int .u64 (Arr4.mk 0 0 0 0).a2, .int .u64 (Arr4.mk 0 0 0 0).a3, .ex (.slice none 0 0), .int .i64 (0 : Int), .int .i64 (0 : Int), .str (⟨#[]⟩ : ByteArray)]) (l' := [.int .u8 (1 : Int), .int .u64 (Arr4.mk 0 0 0 0).a0, .int .u64 (Arr4.mk 0 0 0 0).a1, .int .u64 (Arr4.mk 0 0 0 0).a2, .int .u64 (Arr4.mk 0 0 0 0).a3, .sl false 1 (([] : List Int).map (cI .i64)), .int .i64 (0 : Int), .int .i64 (0 : Int), .str (⟨#[]⟩ : ByteArray)]) (.cons (.same _) (.cons (.same _) (.cons (.same _) (.cons (.same _) (.cons (.same _) (.cons (.nil _ _) (.cons (.same _) (.cons (.same _) (.cons (.same _) (.refl _))))))))))) ?_)
 obtain ⟨aa, v, h⟩ := bind_some h
 refine sp rfl (OpT.callG (is := [0, 1]) (ph := []) rfl (dk rfl) Tryd.func76 rfl rfl (Args.cons rfl (Args.cons rfl Args.nil)) (syp_put_T K (bx0 := bx0) (wx0c1 := a) v) (.cons rfl rfl (.cons rfl rfl (.nil))) (fun _ => rfl) (fun w => ?_))
 refine nm (.c (.c (.c (.n)))) ?_
 refine aw rfl ?_
 refine TL'.nil (tN ?_)
 refine T.ret (thenS_ret ?_)
 exact Fin.doneK (.cons _ _ _ _ (.tmp 2 _ rfl) .nil) (.cons 0 rfl (.cons 0 rfl (.nil _))) (by cases h; exact ⟨gl [w 0], rfl, rfl⟩)
 refine T.condF rfl d ?_
 refine T.skip (tN ?_)
 refine T.seq (T.rL ?_)
 refine mw rfl ?_
 refine mw rfl ?_
 obtain ⟨ab, y, h⟩ := bind_some h
 refine sp rfl (OpT.callG (is := [0, 1]) (ph := []) rfl (dk rfl) Tryd.func59 rfl rfl (Args.cons rfl (Args.cons rfl (Args.view (i := 2) rfl rfl Args.nil))) (syp_join_T K (bx0 := bx0) (wx0c1 := a) (flx2 := false) y) (.cons rfl rfl (.cons rfl rfl (.nil))) (fun _ => rfl) (fun z => ?_))
 refine nm (.c (.c (.c (.n)))) ?_
 refine aw rfl ?_
 refine TL'.nil (tN ?_)
 refine T.ret ?_
 exact Fin.doneK (.cons _ _ _ _ (.tmp 2 _ rfl) .nil) (.cons 0 rfl (.cons 0 rfl (.nil _))) (by cases h; exact ⟨gl [z 0], rfl, rfl⟩)
theorem syp_row_l0_T {r : Int × syp} (K : Nat) (rec_syp_alternative : syp → Option (Int × syp)) (hrec_syp_alternative : syp_alternative_S rec_syp_alternative) (bx0 : Nat) : ∀ (k : Nat), ∀ (d : ByteArray) (g : Int) (j : Int) (l : Int) (m : Int) (p : List aNd) (a : List Int) (w : Value) (q : Value), syp_row_l0 K rec_syp_alternative k d g j l m p a = some r → TL Tryd.prog 37 (Code.at [1, 1, 0, 0, 0] (codeOf Tryd.f57)) ⟨[(0, .ptr bx0 0), (3, .c (.ex q))], [(o74 bx0 d g j l w m), .arrA w 42 9 (p.map c_aNd), .arrA q 3 1 (a.map (cI .i64))]⟩ (syp_row_qb0x111 bx0 r) := by
  intro k
  induction k with
  | zero =>
    intro d g j l m p a w q h
    cases (show (none : Option (Int × syp)) = some r from h)
  | succ k ih =>
    intro d g j l m p a w q h
    rw [syp_row_l0] at h
    refine TL.round ?_
    refine T.block ?_
    refine T.seq ?_
    refine T.seq ?_
    refine T.rL ?_
    refine mv rfl rfl rfl rfl rfl ?_
    refine sp rfl (OpT.nilCheck rfl (dl rfl rfl) rfl rfl ?_)
    refine sp rfl (OpT.fP rfl (dl rfl rfl) Tryd.underlying74 rfl i72 (by decide) rfl ?_)
    obtain ⟨ai, ab, h⟩ := bind_some h
    refine sp rfl (OpT.callG (is := [0, 1]) (ph := []) rfl (dl rfl rfl) Tryd.func39 rfl rfl (Args.cons rfl Args.nil) (syr_peek_T K (bx0 := bx0) (wx0c1 := w) ab) (.cons rfl rfl (.cons rfl rfl (.nil))) (fun _ => rfl) (fun y => ?_))
    refine nm (.c (.c (.c (.n)))) ?_
    refine mv rfl rfl rfl rfl rfl ?_
    refine sp rfl (OpT.extract rfl (dl rfl rfl) rfl rfl ?_)
    refine sp rfl (OpT.extract rfl (dl rfl rfl) rfl rfl ?_)
    refine asg rfl rfl rfl rfl rfl ?_
    refine asg rfl rfl rfl rfl rfl ?_
    refine TL'.nil (tN ?_)
    refine T.seq ?_
    refine T.rL ?_
    refine mv rfl rfl rfl rfl rfl ?_
    refine sp rfl (OpT.not rfl (dl rfl rfl) rfl ?_)
    refine mv rfl rfl rfl rfl rfl ?_
    rcases bif_some h with ⟨u, h⟩ | ⟨u, h⟩
    · refine TL'.pU (.off _ _ _ _ rfl rfl rfl u) (dl rfl rfl) ?_
      refine TL'.pU (.off _ _ _ _ rfl rfl rfl u) (dl rfl rfl) ?_
      refine sp rfl (OpT.pickT rfl (dl rfl rfl) rfl u rfl ?_)
      refine mv rfl rfl rfl rfl rfl ?_
      refine TL'.pU (.off _ _ _ _ rfl rfl rfl rfl) (dl rfl rfl) ?_
      refine TL'.pU (.off _ _ _ _ rfl rfl rfl rfl) (dl rfl rfl) ?_
      refine sp rfl (OpT.pickT rfl (dl rfl rfl) rfl rfl rfl ?_)
      refine TL'.nil (tN ?_)
      refine T.condT rfl rfl ?_
      refine T.by_turn ?_ (syp_row_j1_T K rec_syp_alternative hrec_syp_alternative bx0 d g j l m p a (y 0) q h)
      exact Turn.rp (.cons rfl (.cons rfl (.nil _))) (.c .z (.c .z (.c .z (.n _))))
    · refine TL'.step (.on rfl rfl rfl u) (OpT.move rfl (dl rfl rfl) rfl ?_)
      refine TL'.step (.on rfl rfl rfl u) (OpT.int2 rfl rfl (dl rfl rfl) rfl rfl ?_)
      refine sp rfl (OpT.pickF rfl (dl rfl rfl) rfl u rfl ?_)
      refine mv rfl rfl rfl rfl rfl ?_
      rcases bif_some h with ⟨v, h⟩ | ⟨v, h⟩
      · refine TL'.pU (.off _ _ _ _ rfl rfl rfl v) (dl rfl rfl) ?_
        refine TL'.pU (.off _ _ _ _ rfl rfl rfl v) (dl rfl rfl) ?_
        refine sp rfl (OpT.pickT rfl (dl rfl rfl) rfl v rfl ?_)
        refine TL'.nil (tN ?_)
        refine T.condT rfl rfl ?_
        refine T.by_turn ?_ (syp_row_j1_T K rec_syp_alternative hrec_syp_alternative bx0 d g j l m p a (y 0) q h)
        exact Turn.rp (.cons rfl (.cons rfl (.nil _))) (.c .z (.c .z (.c .z (.n _))))
      · refine TL'.step (.on rfl rfl rfl v) (OpT.move rfl (dl rfl rfl) rfl ?_)
        refine TL'.step (.on rfl rfl rfl v) (OpT.int2 rfl rfl (dl rfl rfl) rfl rfl ?_)
        refine sp rfl (OpT.pickF rfl (dl rfl rfl) rfl v rfl ?_)
        refine TL'.nil (tN ?_)
        rcases bif_some h with ⟨aa, h⟩ | ⟨aa, h⟩
        · refine T.condT rfl aa ?_
          refine T.by_turn ?_ (syp_row_j1_T K rec_syp_alternative hrec_syp_alternative bx0 d g j l m p a (y 0) q h)
          exact Turn.rp (.cons rfl (.cons rfl (.nil _))) (.c .z (.c .z (.c .z (.n _))))
        · refine T.condF rfl aa ?_
          refine T.skip (tN ?_)
          refine T.rL ?_
          refine mv rfl rfl rfl rfl rfl ?_
          refine mv rfl rfl rfl rfl rfl ?_
          obtain ⟨b, ac, h⟩ := bind_some h
          refine sp rfl (OpT.callG (is := [0, 1]) (ph := []) rfl (dl rfl rfl) Tryd.func75 rfl rfl (Args.cons rfl Args.nil) (syp_item_T K rec_syp_alternative hrec_syp_alternative (bx0 := bx0) (wx0c1 := (y 0)) ac) (.cons rfl rfl (.cons rfl rfl (.nil))) (fun _ => rfl) (fun ad => ?_))
          refine nm (.c (.c (.c (.n)))) ?_
          refine sp rfl (OpT.buildSlice (elems := ([b.1] : List Int).map (cI .i64)) rfl (dl rfl rfl) Tryd.underlying40 i3 (by decide) rfl (all1 rfl) rfl rfl rfl (lenAll rfl) (by decide) ?_)
          obtain ⟨af, h⟩ := ck_some h
          refine sp rfl (OpT.appendAM (i := 2) (xs := a) (ys := [b.1]) (f := (cI .i64)) rfl (dl rfl rfl) Tryd.underlying40 i3 rfl rfl rfl rfl af (fun ag => ?_))
          refine asg rfl rfl rfl rfl rfl ?_
          refine TL'.nil (inBlock_normal (tN ?_))
          refine TL.by_turn ?_ (ih b.2.reader.s b.2.reader.at_ b.2.reader.where_ b.2.reader.e b.2.deep b.2.nodes (a ++ [b.1]) (ad 0) ag h)
          exact Turn.rp (.cons rfl (.cons rfl (.nil _))) (.c .z (.c .z (.c .z (.n _))))
theorem syp_row_T (K : Nat) (rec_syp_alternative : syp → Option (Int × syp)) (hrec_syp_alternative : syp_alternative_S rec_syp_alternative) {x0 : syp} {bx0 : Nat} {wx0c1 : Value} {r : Int × syp} (h : syp_row K rec_syp_alternative x0 = some r) : CallG Tryd.prog 57 [.ptr bx0 0] [(o74 bx0 x0.reader.s x0.reader.at_ x0.reader.where_ x0.reader.e wx0c1 x0.deep), .arrA wx0c1 42 9 (x0.nodes.map c_aNd)] (fun γ => (.int .i64 r.1)) (fun γ => [(o74 bx0 r.2.reader.s r.2.reader.at_ r.2.reader.where_ r.2.reader.e (γ 0) r.2.deep), .arrA (γ 0) 42 9 (r.2.nodes.map c_aNd)]) := by
 refine CallT.intro Tryd.func57 rfl (nb rfl) ?_
 show T Tryd.prog 37 (Code.at [] (codeOf Tryd.f57)) ⟨paramSlots 0 [.ptr bx0 0], [(o74 bx0 x0.reader.s x0.reader.at_ x0.reader.where_ x0.reader.e wx0c1 x0.deep), .arrA wx0c1 42 9 (x0.nodes.map c_aNd)]⟩ (syp_row_q bx0 r)
 unfold syp_row at h
 refine T.seq (T.rL ?_)
 refine aw rfl ?_
 refine TL'.nil (tN (T.seq (T.rL ?_)))
 refine aw rfl ?_
 refine TL'.nil (tN ?_)
 refine T.seq ?_
 refine T.block ?_
 refine T.loop ?_
 refine TL.by_turn (Turn.nilA 3 1) ?_
 refine TL.by_turn ?_ (syp_row_l0_T K rec_syp_alternative hrec_syp_alternative bx0 K x0.reader.s x0.reader.at_ x0.reader.where_ x0.reader.e x0.deep x0.nodes [] wx0c1 (nilv 2) h)
 exact Turn.rp (.cons rfl (.cons rfl (.nil _))) (.c (.s .z) (.c (.s .z) (.c .z (.n _))))
abbrev syp_alternative_q (bx0 : Nat) (r : Int × syp) : Exit → St → Prop := retS Tryd.prog Tryd.f38 (fun y t => ∃ γ : Nat → Value, y = (.int .i64 r.1) ∧ t = [(o74 bx0 r.2.reader.s r.2.reader.at_ r.2.reader.where_ r.2.reader.e (γ 0) r.2.deep), .arrA (γ 0) 42 9 (r.2.nodes.map c_aNd)])
abbrev syp_alternative_qs111 (bx0 : Nat) (r : Int × syp) : Exit → St → Prop := thenS (fun s' => T Tryd.prog 19 (Code.at [1, 1, 1] (codeOf Tryd.f38)) s' ((syp_alternative_q bx0 r))) ((syp_alternative_q bx0 r))
abbrev syp_alternative_qb0x111 (bx0 : Nat) (r : Int × syp) : Exit → St → Prop := inBlockS 0 ((syp_alternative_qs111 bx0 r))
theorem syp_alternative_l0_T {r : Int × syp} (K : Nat) (rec_syp_alternative : syp → Option (Int × syp)) (hrec_syp_alternative : syp_alternative_S rec_syp_alternative) (bx0 : Nat) : ∀ (k : Nat), ∀ (g : ByteArray) (j : Int) (l : Int) (m : Int) (p : Int) (q : List aNd) (b : List Int) (d : Value) (u : Value), syp_alternative_l0 K rec_syp_alternative k g j l m p q b = some r → TL Tryd.prog 19 (Code.at [1, 1, 0, 0, 0] (codeOf Tryd.f38)) ⟨[(0, .ptr bx0 0), (3, .c (.ex u))], [(o74 bx0 g j l m d p), .arrA d 42 9 (q.map c_aNd), .arrA u 3 1 (b.map (cI .i64))]⟩ (syp_alternative_qb0x111 bx0 r) := by
  intro k
  induction k with
  | zero =>
    intro g j l m p q b d u h
    cases (show (none : Option (Int × syp)) = some r from h)
  | succ k ih =>
    intro g j l m p q b d u h
    rw [syp_alternative_l0] at h
    refine TL.round ?_
    refine T.seq ?_
    refine T.seq ?_
    refine T.rL ?_
    refine mv rfl rfl rfl rfl rfl ?_
    refine sp rfl (OpT.nilCheck rfl (dl rfl rfl) rfl rfl ?_)
    refine sp rfl (OpT.fP rfl (dl rfl rfl) Tryd.underlying74 rfl i72 (by decide) rfl ?_)
    obtain ⟨ai, y, h⟩ := bind_some h
    refine sp rfl (OpT.callG (is := [0, 1]) (ph := []) rfl (dl rfl rfl) Tryd.func58 rfl rfl (Args.cons rfl (Args.cons rfl Args.nil)) (syr_skip_T K (bx0 := bx0) (wx0c1 := d) y) (.cons rfl rfl (.cons rfl rfl (.nil))) (fun _ => rfl) (fun w => ?_))
    refine nm (.c (.c (.c (.n)))) ?_
    refine TL'.nil (tN ?_)
    rcases bif_some h with ⟨v, h⟩ | ⟨v, h⟩
    · refine T.condT rfl v ?_
      refine T.skip (tN ?_)
      refine T.block ?_
      refine T.rL ?_
      refine mv rfl rfl rfl rfl rfl ?_
      refine mv rfl rfl rfl rfl rfl ?_
      obtain ⟨a, aa, h⟩ := bind_some h
      refine sp rfl (OpT.callG (is := [0, 1]) (ph := []) rfl (dl rfl rfl) Tryd.func57 rfl rfl (Args.cons rfl Args.nil) (syp_row_T K rec_syp_alternative hrec_syp_alternative (bx0 := bx0) (wx0c1 := (w 0)) aa) (.cons rfl rfl (.cons rfl rfl (.nil))) (fun _ => rfl) (fun ab => ?_))
      refine nm (.c (.c (.c (.n)))) ?_
      refine sp rfl (OpT.buildSlice (elems := ([a.1] : List Int).map (cI .i64)) rfl (dl rfl rfl) Tryd.underlying40 i3 (by decide) rfl (all1 rfl) rfl rfl rfl (lenAll rfl) (by decide) ?_)
      obtain ⟨ac, h⟩ := ck_some h
      refine sp rfl (OpT.appendAM (i := 2) (xs := b) (ys := [a.1]) (f := (cI .i64)) rfl (dl rfl rfl) Tryd.underlying40 i3 rfl rfl rfl rfl ac (fun ad => ?_))
      refine asg rfl rfl rfl rfl rfl ?_
      refine TL'.nil (inBlock_normal (tN ?_))
      refine TL.by_turn ?_ (ih a.2.reader.s a.2.reader.at_ a.2.reader.where_ a.2.reader.e a.2.deep a.2.nodes (b ++ [a.1]) (ab 0) ad h)
      exact Turn.rp (.cons rfl (.cons rfl (.nil _))) (.c .z (.c .z (.c .z (.n _))))
    · refine T.condF rfl v ?_
      refine T.exit (thenS_exit (thenS_exit (inBlock_exit (tN ?_))))
      refine T.seq ?_
      refine T.rL ?_
      refine mv rfl rfl rfl rfl rfl ?_
      refine mv rfl rfl rfl rfl rfl ?_
      obtain ⟨aj, af, h⟩ := bind_some h
      refine sp rfl (OpT.callG (is := [0, 1]) (ph := []) rfl (dl rfl rfl) Tryd.func59 rfl rfl (Args.cons rfl (Args.cons rfl (Args.view (i := 2) rfl rfl Args.nil))) (syp_join_T K (bx0 := bx0) (wx0c1 := (w 0)) (flx2 := false) af) (.cons rfl rfl (.cons rfl rfl (.nil))) (fun _ => rfl) (fun ag => ?_))
      refine nm (.c (.c (.c (.n)))) ?_
      refine asg rfl rfl rfl rfl rfl ?_
      refine TL'.nil (tN ?_)
      refine T.ret ?_
      exact Fin.doneK (.cons _ _ _ _ (.tmp 2 _ rfl) .nil) (.cons 0 rfl (.cons 0 rfl (.nil _))) (by cases h; exact ⟨gl [ag 0], rfl, rfl⟩)
theorem syp_alternative_b_T (K : Nat) (rec_syp_alternative : syp → Option (Int × syp)) (hrec_syp_alternative : syp_alternative_S rec_syp_alternative) {x0 : syp} {bx0 : Nat} {wx0c1 : Value} {r : Int × syp} (h : syp_alternative_b K rec_syp_alternative x0 = some r) : CallG Tryd.prog 38 [.ptr bx0 0] [(o74 bx0 x0.reader.s x0.reader.at_ x0.reader.where_ x0.reader.e wx0c1 x0.deep), .arrA wx0c1 42 9 (x0.nodes.map c_aNd)] (fun γ => (.int .i64 r.1)) (fun γ => [(o74 bx0 r.2.reader.s r.2.reader.at_ r.2.reader.where_ r.2.reader.e (γ 0) r.2.deep), .arrA (γ 0) 42 9 (r.2.nodes.map c_aNd)]) := by
 refine CallT.intro Tryd.func38 rfl (nb rfl) ?_
 show T Tryd.prog 19 (Code.at [] (codeOf Tryd.f38)) ⟨paramSlots 0 [.ptr bx0 0], [(o74 bx0 x0.reader.s x0.reader.at_ x0.reader.where_ x0.reader.e wx0c1 x0.deep), .arrA wx0c1 42 9 (x0.nodes.map c_aNd)]⟩ (syp_alternative_q bx0 r)
 unfold syp_alternative_b at h
 refine T.seq (T.rL ?_)
 refine aw rfl ?_
 refine TL'.nil (tN (T.seq (T.rL ?_)))
 refine mw rfl ?_
 obtain ⟨a, b, h⟩ := bind_some h
 refine sp rfl (OpT.callG (is := [0, 1]) (ph := []) rfl (dk rfl) Tryd.func57 rfl rfl (Args.cons rfl Args.nil) (syp_row_T K rec_syp_alternative hrec_syp_alternative (bx0 := bx0) (wx0c1 := wx0c1) b) (.cons rfl rfl (.cons rfl rfl (.nil))) (fun _ => rfl) (fun d => ?_))
 refine nm (.c (.c (.n))) ?_
 refine sp rfl (OpT.buildSlice (elems := ([a.1] : List Int).map (cI .i64)) rfl (dk rfl) ul40 i3 (by decide) rfl (all1 rfl) rfl rfl rfl (lenAll rfl) (by decide) ?_)
 refine aw rfl ?_
 refine TL'.nil (tN ?_)
 refine T.seq ?_
 refine T.block ?_
 refine T.loop ?_
 refine TL.by_turnG (TurnG.ownFull 3 3 rfl) (fun f => ?_)
 refine TL.by_turn ?_ (syp_alternative_l0_T K rec_syp_alternative hrec_syp_alternative bx0 K a.2.reader.s a.2.reader.at_ a.2.reader.where_ a.2.reader.e a.2.deep a.2.nodes [a.1] (d 0) f h)
 exact Turn.rp (.cons rfl (.cons rfl (.nil _))) (.c (.s .z) (.c (.s .z) (.c .z (.n _))))
theorem syp_alternative_r_T (K : Nat) : ∀ n, syp_alternative_S (syp_alternative_r K n) := by
  intro n
  induction n with
  | zero =>
    intro x0 bx0 wx0c1 r h
    cases (show (none : Option (Int × syp)) = some r from h)
  | succ n ih =>
    intro x0 bx0 wx0c1 r h
    exact syp_alternative_b_T K (syp_alternative_r K n) ih h
theorem syp_alternative_T (K : Nat) {x0 : syp} {bx0 : Nat} {wx0c1 : Value} {r : Int × syp} (h : syp_alternative K x0 = some r) : CallG Tryd.prog 38 [.ptr bx0 0] [(o74 bx0 x0.reader.s x0.reader.at_ x0.reader.where_ x0.reader.e wx0c1 x0.deep), .arrA wx0c1 42 9 (x0.nodes.map c_aNd)] (fun γ => (.int .i64 r.1)) (fun γ => [(o74 bx0 r.2.reader.s r.2.reader.at_ r.2.reader.where_ r.2.reader.e (γ 0) r.2.deep), .arrA (γ 0) 42 9 (r.2.nodes.map c_aNd)]) := syp_alternative_r_T K K x0 bx0 wx0c1 r h
abbrev sy_Parse_q (r : (List aNd) × Int × Int) : Exit → St → Prop := retS Tryd.prog Tryd.f17 (fun y t => y = (.tup [.sl false 9 (r.1.map c_aNd), .int .i64 r.2.1, .int .i64 r.2.2]) ∧ t = [])
theorem sy_Parse_j0_T {r : (List aNd) × Int × Int} (K : Nat) (j : ByteArray) (l : Int) (b : Int) (d : Int) (m : Int) (n : List aNd) (a : Nat) (g : Value) (h : sy_Parse_j0 K j l b d m n = some r) : T Tryd.prog 62 (Code.at [1, 1, 1, 1, 1] (codeOf Tryd.f17)) ⟨[(5, .ptr a 0)], [(o74 a j l b d g m), .arrA g 42 9 (n.map c_aNd)]⟩ (sy_Parse_q r) := by
 unfold sy_Parse_j0 at h
 refine T.seq ?_
 refine T.block ?_
 refine T.seq (T.rL ?_)
 refine mw rfl ?_
 refine sp rfl (OpT.nilCheck rfl (dk rfl) rfl rfl ?_)
 refine sp rfl (OpT.fP rfl (dk rfl) ul74 rfl i72 (by decide) rfl ?_)
 refine sp rfl (OpT.fP rfl (dk rfl) ul72 rfl i35 (by decide) rfl ?_)
 refine sp rfl (OpT.lB (i := 0) rfl (dk rfl) ul35 rfl rfl rfl rfl ?_)
 refine sp rfl (OpT.int2 rfl rfl (dk rfl) rfl rfl ?_)
 refine aw rfl ?_
 refine TL'.nil (tN ?_)
 rcases bif_some h with ⟨p, h⟩ | ⟨p, h⟩
 refine T.condT rfl p ?_
 refine T.seq ?_
 refine DG.start ?_
 refine DG.mv rfl rfl rfl rfl rfl rfl ?_
 refine DG.step (c := ⟨some 42, .ptr a 0, [(41, .ptr a 0)], [], []⟩) (fun t hm => One.step rfl (.free rfl) (OpT.nilCheck rfl (dk rfl) hm.s0 rfl rfl)) (Ct.mo rfl rfl) ?_
 refine DG.step (c := ⟨some 43, .ptr a (0 + 0), [(42, .ptr a 0)], [], []⟩) (fun t hm => One.step rfl (.free rfl) (OpT.fP rfl (dk rfl) ul74 rfl i72 (by decide) hm.s0 rfl)) (Ct.mo rfl rfl) ?_
 refine DG.step (c := ⟨some 44, .ptr a (0 + 0 + 2), [(43, .ptr a (0 + 0))], [], []⟩) (fun t hm => One.step rfl (.free rfl) (OpT.fP rfl (dk rfl) ul72 rfl i3 (by decide) hm.s0 rfl)) (Ct.mo rfl rfl) ?_
 refine DG.step (c := ⟨some 45, .int .i64 b, [(44, .ptr a (0 + 0 + 2))], [(0, (o74 a j l b d g m))], []⟩) (fun t hm => One.step rfl (.free rfl) (OpT.lB (i := 0) rfl (dk rfl) ul3 rfl hm.s0 hm.o0 rfl rfl)) (Ct.mo rfl rfl) ?_
 refine DG.mv rfl rfl rfl rfl rfl rfl ?_
 refine DG.step (c := ⟨some 47, .ptr a 0, [(46, .ptr a 0)], [], []⟩) (fun t hm => One.step rfl (.free rfl) (OpT.nilCheck rfl (dk rfl) hm.s0 rfl rfl)) (Ct.mo rfl rfl) ?_
 refine DG.step (c := ⟨some 48, .ptr a (0 + 0), [(47, .ptr a 0)], [], []⟩) (fun t hm => One.step rfl (.free rfl) (OpT.fP rfl (dk rfl) ul74 rfl i72 (by decide) hm.s0 rfl)) (Ct.mo rfl rfl) ?_
 refine DG.step (c := ⟨some 49, .ptr a (0 + 0 + 3), [(48, .ptr a (0 + 0))], [], []⟩) (fun t hm => One.step rfl (.free rfl) (OpT.fP rfl (dk rfl) ul72 rfl i35 (by decide) hm.s0 rfl)) (Ct.mo rfl rfl) ?_
 refine DG.step (c := ⟨some 50, .int .i64 d, [(49, .ptr a (0 + 0 + 3))], [(0, (o74 a j l b d g m))], []⟩) (fun t hm => One.step rfl (.free rfl) (OpT.lB (i := 0) rfl (dk rfl) ul35 rfl hm.s0 hm.o0 rfl rfl)) (Ct.mo rfl rfl) ?_
 refine DG.step (c := ⟨some 2, .c (.ex (.slice none 0 0)), [], [], []⟩) (fun t hm => One.step rfl (.free rfl) (OpT.assign rfl (dk rfl) rfl rfl)) (Ct.mo rfl rfl) ?_
 refine DG.step (c := ⟨some 3, .int .i64 b, [(45, .int .i64 b)], [], []⟩) (fun t hm => One.step rfl (.free rfl) (OpT.assign rfl (dk rfl) hm.s0 rfl)) (Ct.mo rfl rfl) ?_
 refine DG.step (c := ⟨some 4, .int .i64 d, [(50, .int .i64 d)], [], []⟩) (fun t hm => One.step rfl (.free rfl) (OpT.assign rfl (dk rfl) hm.s0 rfl)) (Ct.mo rfl rfl) ?_
 refine DG.fin (s1 := ⟨[(2, .c (.ex (.slice none 0 0))), (3, .int .i64 b), (4, .int .i64 d)], [(o74 a j l b d g m), .arrA g 42 9 (n.map c_aNd)]⟩) (ms := [0, 1, 3, 7, 15, 0, 32, 96, 224, 480, 0, 1055, 4095]) TrydMixed rfl (by kernel_rfl) (by kernel_rfl) (by kernel_rfl) (.cons rfl (.cons rfl (.cons rfl (.nil _)))) rfl (fun u hu => (tN (T.by_turn hu ?_)))
 refine T.ret (inBlock_ret (thenS_ret ?_))
 refine Fin.turn (Turn.nilSl 2 false 9 rfl) ?_
 exact Fin.done (.cons _ _ _ _ (.tmp 2 _ rfl) (.cons _ _ _ _ (.tmp 3 _ rfl) (.cons _ _ _ _ (.tmp 4 _ rfl) .nil))) (by cases h; exact ⟨rfl, rfl⟩)
 refine T.condF rfl p ?_
 refine T.seq (T.rL ?_)
 refine mw rfl ?_
 refine sp rfl (OpT.nilCheck rfl (dk rfl) rfl rfl ?_)
 refine sp rfl (OpT.fP rfl (dk rfl) ul74 rfl i22 (by decide) rfl ?_)
 refine sp rfl (OpT.thenTurn (OpT.lB (i := 0) rfl (dk rfl) ul22 rfl rfl rfl rfl rfl) (Turn.viewP 55 1 rfl) ?_)
 refine sp rfl (OpT.lenSlM (xs := n) (f := c_aNd) rfl (dk rfl) ul22 rfl ?_)
 refine sp rfl (OpT.int2 rfl rfl (dk rfl) rfl rfl ?_)
 refine aw rfl ?_
 refine TL'.nil (tN ?_)
 rcases bif_some h with ⟨q, h⟩ | ⟨q, h⟩
 refine T.condT rfl q ?_
 refine T.seq (T.rL ?_)
 refine aw rfl ?_
 refine aw rfl ?_
 refine aw rfl ?_
 refine TL'.nil (tN ?_)
 refine T.ret (inBlock_ret (thenS_ret ?_))
 refine Fin.turn (Turn.nilSl 2 false 9 rfl) ?_
 exact Fin.done (.cons _ _ _ _ (.tmp 2 _ rfl) (.cons _ _ _ _ (.tmp 3 _ rfl) (.cons _ _ _ _ (.tmp 4 _ rfl) .nil))) (by cases h; exact ⟨rfl, rfl⟩)
 refine T.condF rfl q ?_
 refine T.skip (inBlock_normal (tN ?_))
 refine T.seq (T.rL ?_)
 refine mw rfl ?_
 refine sp rfl (OpT.nilCheck rfl (dk rfl) rfl rfl ?_)
 refine sp rfl (OpT.fP rfl (dk rfl) ul74 rfl i22 (by decide) rfl ?_)
 refine sp rfl (OpT.lB (i := 0) rfl (dk rfl) ul22 rfl rfl rfl rfl ?_)
 refine aw rfl ?_
 refine aw rfl ?_
 refine aw rfl ?_
 refine TL'.nil (tN ?_)
 refine T.ret ?_
 refine Fin.turn (Turn.view 2 1 rfl rfl) ?_
 exact Fin.done (.cons _ _ _ _ (.tmp 2 _ rfl) (.cons _ _ _ _ (.tmp 3 _ rfl) (.cons _ _ _ _ (.tmp 4 _ rfl) .nil))) (by cases h; exact ⟨rfl, rfl⟩)
theorem sy_Parse_T (K : Nat) {x0 : ByteArray} {r : (List aNd) × Int × Int} (h : sy_Parse K x0 = some r) : CallR Tryd.prog 17 [.str x0] [] (.tup [.sl false 9 (r.1.map c_aNd), .int .i64 r.2.1, .int .i64 r.2.2]) := by
 refine CallT.intro Tryd.func17 rfl (nb rfl) ?_
 show T Tryd.prog 62 (Code.at [] (codeOf Tryd.f17)) ⟨paramSlots 0 [.str x0], []⟩ (sy_Parse_q r)
 unfold sy_Parse at h
 refine T.seq (T.rL ?_)
 refine aw rfl ?_
 refine aw rfl ?_
 refine aw rfl ?_
 refine TL'.nil (tN ?_)
 refine T.seq ?_
 refine T.seq (T.rL ?_)
 refine mw rfl ?_
 refine sp rfl (OpT.lenStr rfl (dk rfl) ul9 rfl ?_)
 refine sp rfl (OpT.int2 rfl rfl (dk rfl) rfl rfl ?_)
 refine TL'.nil (tN ?_)
 rcases bif_some h with ⟨m, h⟩ | ⟨m, h⟩
 refine T.condT rfl m ?_
 refine T.seq (T.rL ?_)
 refine aw rfl ?_
 refine aw rfl ?_
 refine aw rfl ?_
 refine TL'.nil (tN ?_)
 refine T.ret (thenS_ret ?_)
 refine Fin.turn (Turn.nilSl 2 false 9 rfl) ?_
 exact Fin.done (.cons _ _ _ _ (.tmp 2 _ rfl) (.cons _ _ _ _ (.tmp 3 _ rfl) (.cons _ _ _ _ (.tmp 4 _ rfl) .nil))) (by cases h; exact ⟨rfl, rfl⟩)
 refine T.condF rfl m ?_
 refine T.skip (tN ?_)
 refine T.seq (T.rL ?_)
 refine mw rfl ?_
 refine sp rfl (OpT.build (l := [.str x0, .int .i64 (0 : Int), .int .i64 (0 : Int), .int .i64 (0 : Int)]) rfl (dk rfl) (built_struct (pl := [(0, 1), (1, 1), (2, 1), (3, 1)]) ul72 i72 rfl) (all1 rfl) rfl rfl ?_)
 refine sp rfl (OpT.build (l := [.str x0, .int .i64 (0 : Int), .int .i64 (0 : Int), .int .i64 (0 : Int), .ex (.slice none 0 0), .int .i64 (0 : Int)]) rfl (dk rfl) (built_struct (pl := [(0, 4), (4, 1), (5, 1)]) ul74 i74 rfl) (all1 rfl) rfl rfl ?_)
 refine sp rfl (OpT.boxAgg rfl (dk rfl) rfl (fun b => ?_))
 refine aw rfl ?_
 refine TL'.nil (tN (T.seq (T.rL ?_)))
 refine mw rfl ?_
 refine TL'.turn (Turn.nilA 42 9) ?_
 obtain ⟨d, q, h⟩ := bind_some h
 refine sp rfl (OpT.callG (is := [1, 0]) (ph := []) rfl (dk rfl) Tryd.func38 rfl rfl (Args.cons rfl Args.nil) (syp_alternative_T K (bx0 := b) (wx0c1 := (nilv 9)) q) (.cons rfl rfl (.cons rfl rfl (.nil))) (fun _ => rfl) (fun v => ?_))
 refine nm (.c (.c (.n))) ?_
 refine TL'.nil (tN ?_)
 refine T.seq ?_
 refine T.seq (T.rL ?_)
 refine mw rfl ?_
 refine sp rfl (OpT.nilCheck rfl (dk rfl) rfl rfl ?_)
 refine sp rfl (OpT.fP rfl (dk rfl) ul74 rfl i72 (by decide) rfl ?_)
 obtain ⟨aa, w, h⟩ := bind_some h
 refine sp rfl (OpT.callG (is := [1, 0]) (ph := []) rfl (dk rfl) Tryd.func39 rfl rfl (Args.cons rfl Args.nil) (syr_peek_T K (bx0 := b) (wx0c1 := (v 0)) w) (.cons rfl rfl (.cons rfl rfl (.nil))) (fun _ => rfl) (fun j => ?_))
 refine nm (.c (.c (.n))) ?_
 refine mw rfl ?_
 refine sp rfl (OpT.extract rfl (dk rfl) rfl rfl ?_)
 refine sp rfl (OpT.extract rfl (dk rfl) rfl rfl ?_)
 refine aw rfl ?_
 refine aw rfl ?_
 refine TL'.nil (tN (T.seq (T.rL ?_)))
 refine mw rfl ?_
 refine TL'.nil (tN ?_)
 rcases bif_some h with ⟨p, h⟩ | ⟨p, h⟩
 refine T.condT rfl p ?_
 refine DGG.start ?_
 refine DGG.step (c := fun a => ⟨some 25, .ptr b 0, [(5, .ptr b 0)], [], []⟩) [] (fun _ _ _ => rfl) (fun a t hm => One.step rfl (.free rfl) (OpT.move rfl (dk rfl) hm.s0 ⟨u0, rfl⟩)) (fun a => Ct.mo rfl rfl) ?_
 refine DGG.step (c := fun a => ⟨some 26, .ptr b 0, [(25, .ptr b 0)], [], []⟩) [] (fun _ _ _ => rfl) (fun a t hm => One.step rfl (.free rfl) (OpT.nilCheck rfl (dk rfl) hm.s0 rfl ⟨u0, rfl⟩)) (fun a => Ct.mo rfl rfl) ?_
 refine DGG.step (c := fun a => ⟨some 27, .ptr b (0 + 0), [(26, .ptr b 0)], [], []⟩) [] (fun _ _ _ => rfl) (fun a t hm => One.step rfl (.free rfl) (OpT.fP rfl (dk rfl) ul74 rfl i72 (by decide) hm.s0 ⟨u0, rfl⟩)) (fun a => Ct.mo rfl rfl) ?_
 refine DGG.step (c := fun a => ⟨some 28, .ptr b 0, [(5, .ptr b 0)], [], []⟩) [] (fun _ _ _ => rfl) (fun a t hm => One.step rfl (.free rfl) (OpT.move rfl (dk rfl) hm.s0 ⟨u0, rfl⟩)) (fun a => Ct.mo rfl rfl) ?_
 refine DGG.step (c := fun a => ⟨some 29, .ptr b 0, [(28, .ptr b 0)], [], []⟩) [] (fun _ _ _ => rfl) (fun a t hm => One.step rfl (.free rfl) (OpT.nilCheck rfl (dk rfl) hm.s0 rfl ⟨u0, rfl⟩)) (fun a => Ct.mo rfl rfl) ?_
 refine DGG.step (c := fun a => ⟨some 30, .ptr b (0 + 0), [(29, .ptr b 0)], [], []⟩) [] (fun _ _ _ => rfl) (fun a t hm => One.step rfl (.free rfl) (OpT.fP rfl (dk rfl) ul74 rfl i72 (by decide) hm.s0 ⟨u0, rfl⟩)) (fun a => Ct.mo rfl rfl) ?_
 refine DGG.step (c := fun a => ⟨some 31, .ptr b (0 + 0 + 1), [(30, .ptr b (0 + 0))], [], []⟩) [] (fun _ _ _ => rfl) (fun a t hm => One.step rfl (.free rfl) (OpT.fP rfl (dk rfl) ul72 rfl i3 (by decide) hm.s0 ⟨u0, rfl⟩)) (fun a => Ct.mo rfl rfl) ?_
 refine DGG.step (c := fun a => ⟨some 32, .int .i64 d.2.reader.at_, [(31, .ptr b (0 + 0 + 1))], [(1, (o74 b d.2.reader.s d.2.reader.at_ d.2.reader.where_ d.2.reader.e (j 0) d.2.deep))], []⟩) [] (fun _ _ _ => rfl) (fun a t hm => One.step rfl (.free rfl) (OpT.lB (i := 1) rfl (dk rfl) ul3 rfl hm.s0 hm.o0 rfl ⟨u0, rfl⟩)) (fun a => Ct.mo rfl rfl) ?_
 obtain ⟨f, y, h⟩ := bind_some h
 refine DGG.step (c := fun a => ⟨some 33, .tup [], [(27, .ptr b (0 + 0)), (32, .int .i64 d.2.reader.at_)], [(0, .arrA (j 0) 42 9 (d.2.nodes.map c_aNd)), (1, (o74 b d.2.reader.s d.2.reader.at_ d.2.reader.where_ d.2.reader.e (j 0) d.2.deep))], [(1, (o74 b f.reader.s f.reader.at_ f.reader.where_ f.reader.e ((a 8).1 0) f.deep)), (0, .arrA ((a 8).1 0) 42 9 (f.nodes.map c_aNd))]⟩) [8] (fun a γ' h => by simp only [h 8 (by decide)]) (fun a t hm => One.step rfl (.free rfl) (OpT.callG (is := [1, 0]) (ph := []) rfl (dk rfl) Tryd.func40 rfl rfl (Args.cons hm.s0 (Args.cons rfl (Args.cons hm.s1 Args.nil))) (syr_fail_T K (bx0 := b) (wx0c1 := (j 0)) y) (.cons hm.o1 rfl (.cons hm.o0 rfl (.nil))) (fun _ => rfl) (fun g => ⟨(g, 0), rfl⟩))) (fun a => Ct.mo rfl rfl) ?_
 refine DGG.fin (s1 := fun a => ⟨[(5, .ptr b 0)], [.arrA ((a 8).1 0) 42 9 (f.nodes.map c_aNd), (o74 b f.reader.s f.reader.at_ f.reader.where_ f.reader.e ((a 8).1 0) f.deep)]⟩) (ms := [0, 1, 3, 0, 8, 24, 56, 120, 255]) TrydMixed rfl (by kernel_rfl) (by kernel_rfl) (by kernel_rfl) (fun a => by kernel_rfl) (fun a => .cons rfl (.nil _)) (fun _ => rfl) (fun a u hu => (tN (T.by_turn hu ?_)))
 refine T.by_turn ?_ (sy_Parse_j0_T K f.reader.s f.reader.at_ f.reader.where_ f.reader.e f.deep f.nodes b ((a 8).1 0) h)
 exact Turn.rp (.cons rfl (.nil _)) (.c (.s .z) (.c .z (.n _)))
 refine T.condF rfl p ?_
 refine T.skip (tN ?_)
 refine T.by_turn ?_ (sy_Parse_j0_T K d.2.reader.s d.2.reader.at_ d.2.reader.where_ d.2.reader.e d.2.deep d.2.nodes b (j 0) h)
 exact Turn.rp (.cons rfl (.nil _)) (.c (.s .z) (.c .z (.n _)))
abbrev r4_Same_q (r : Bool) : Exit → St → Prop := retS Tryd.prog Tryd.f18 (fun y t => y = (.bool r) ∧ t = [])
abbrev r4_Same_qs111 (r : Bool) : Exit → St → Prop := thenS (fun s' => T Tryd.prog 88 (Code.at [1, 1, 1] (codeOf Tryd.f18)) s' ((r4_Same_q r))) ((r4_Same_q r))
abbrev r4_Same_qb0x111 (r : Bool) : Exit → St → Prop := inBlockS 0 ((r4_Same_qs111 r))
abbrev r4_Same_ql11010 (r : Bool) : Exit → St → Prop := thenS (fun s' => TL Tryd.prog 88 (Code.at [1, 1, 0, 1, 0, 0] (codeOf Tryd.f18)) s' ((r4_Same_qb0x111 r))) ((r4_Same_qb0x111 r))
abbrev r4_Same_qs11010011 (r : Bool) : Exit → St → Prop := thenS (fun s' => T Tryd.prog 88 (Code.at [1, 1, 0, 1, 0, 0, 1, 1] (codeOf Tryd.f18)) s' ((r4_Same_ql11010 r))) ((r4_Same_ql11010 r))
abbrev r4_Same_qb1_0x11010011 (r : Bool) : Exit → St → Prop := inBlockS 1 ((r4_Same_qs11010011 r))
abbrev r4_Same_qs110100100111 (r : Bool) : Exit → St → Prop := thenS (fun s' => T Tryd.prog 88 (Code.at [1, 1, 0, 1, 0, 0, 1, 0, 0, 1, 1, 1] (codeOf Tryd.f18)) s' ((r4_Same_qb1_0x11010011 r))) ((r4_Same_qb1_0x11010011 r))
abbrev r4_Same_qb2_1_0x11010011 (r : Bool) : Exit → St → Prop := inBlockS 2 ((r4_Same_qb1_0x11010011 r))
theorem r4_Same_j1_T {r : Bool} (K : Nat) (h : r4_Same_j1 K = some r) : T Tryd.prog 88 (Code.at [1, 1, 0, 1, 0, 0, 1, 0, 0, 1, 1, 0, 1, 0] (codeOf Tryd.f18)) ⟨[], []⟩ (r4_Same_qs110100100111 r) := by
 unfold r4_Same_j1 at h
 refine T.seq (T.rL ?_)
 refine aw rfl ?_
 refine TL'.nil (tN ?_)
 refine T.ret (thenS_ret (inBlock_ret (thenS_ret (thenS_ret (inBlock_ret (thenS_ret ?_))))))
 exact Fin.done (.cons _ _ _ _ (.tmp 4 _ rfl) .nil) (by cases h; exact ⟨rfl, rfl⟩)
abbrev r4_Same_l0_H (r : Bool) (go : (List aNd) → (List aNd) → Int → Option Bool) : Prop := ∀ (x0 : List aNd) (x1 : List aNd) (a : Int) (flx0 : Bool) (flx1 : Bool), go x0 x1 a = some r → TL Tryd.prog 88 (Code.at [1, 1, 0, 1, 0, 0] (codeOf Tryd.f18)) ⟨[(0, .sl flx0 9 (x0.map c_aNd)), (1, .sl flx1 9 (x1.map c_aNd)), (5, .int .i64 a)], []⟩ (r4_Same_qb0x111 r)
theorem r4_Same_l2_T {r : Bool} (K : Nat) (go0 : (List aNd) → (List aNd) → Int → Option Bool) (hgo0 : r4_Same_l0_H r go0) : ∀ (k : Nat), ∀ (x0 : List aNd) (x1 : List aNd) (q : Int) (p : Int) (aj : Arr4) (al : Arr4) (am : Bool) (an : Int) (ap : Int) (aq : Bool) (au : Int) (av : Int) (aw : Bool) (ay : ByteArray) (az : ByteArray) (a4 : Bool) (a5 : List Int) (a6 : Int) (a7 : List Int) (a8 : Int) (a9 : Bool) (s : Int) (g : Arr4) (l : List Int) (w : Int) (y : Int) (aa : ByteArray) (ab : Int) (j : Arr4) (m : List Int) (ac : Int) (ad : Int) (af : ByteArray) (flx0 : Bool) (flx1 : Bool) (a : Nat) (b : Nat), r4_Same_l2 K go0 k x0 x1 q p aj al am an ap aq au av aw ay az a4 a5 a6 a7 a8 a9 s g l w y aa ab j m ac ad af = some r → TL Tryd.prog 88 (Code.at [1, 1, 0, 1, 0, 0, 1, 0, 0, 1, 1, 1, 1, 0, 0] (codeOf Tryd.f18)) ⟨[(0, .sl flx0 9 (x0.map c_aNd)), (1, .sl flx1 9 (x1.map c_aNd)), (5, .int .i64 q), (6, .ptr a 0), (7, .ptr b 0), (8, .int .i64 p), (34, .ptr a (0 + 1)), (35, .agg (Arr4.dc .u64 aj)), (36, .ptr b (0 + 1)), (37, .agg (Arr4.dc .u64 al)), (38, .bool am), (41, .ptr a (0 + 6)), (42, .int .i64 an), (43, .ptr b (0 + 6)), (44, .int .i64 ap), (45, .bool aq), (48, .ptr a (0 + 7)), (49, .int .i64 au), (50, .ptr b (0 + 7)), (51, .int .i64 av), (52, .bool aw), (55, .ptr a (0 + 8)), (56, .str ay), (57, .ptr b (0 + 8)), (58, .str az), (59, .bool a4), (62, .ptr a (0 + 5)), (63, .sl false 1 (a5.map (cI .i64))), (64, .int .i64 a6), (65, .ptr b (0 + 5)), (66, .sl false 1 (a7.map (cI .i64))), (67, .int .i64 a8), (68, .bool a9)], [.box a 42 [.d (.int .u8 s), .d (.int .u64 g.a0), .d (.int .u64 g.a1), .d (.int .u64 g.a2), .d (.int .u64 g.a3), .d (.sl false 1 (l.map (cI .i64))), .d (.int .i64 w), .d (.int .i64 y), .d (.str aa)], .box b 42 [.d (.int .u8 ab), .d (.int .u64 j.a0), .d (.int .u64 j.a1), .d (.int .u64 j.a2), .d (.int .u64 j.a3), .d (.sl false 1 (m.map (cI .i64))), .d (.int .i64 ac), .d (.int .i64 ad), .d (.str af)]]⟩ (r4_Same_qb2_1_0x11010011 r) := by
  intro k
  induction k with
  | zero =>
    intro x0 x1 q p aj al am an ap aq au av aw ay az a4 a5 a6 a7 a8 a9 s g l w y aa ab j m ac ad af flx0 flx1 a b h
    cases (show (none : Option Bool) = some r from h)
  | succ k ih =>
    intro x0 x1 q p aj al am an ap aq au av aw ay az a4 a5 a6 a7 a8 a9 s g l w y aa ab j m ac ad af flx0 flx1 a b h
    rw [r4_Same_l2] at h
    refine TL.round ?_
    refine T.seq ?_
    refine T.seq ?_
    refine T.rL ?_
    refine mv rfl rfl rfl rfl rfl ?_
    refine sp rfl (OpT.fP rfl (dl rfl rfl) Tryd.underlying42 rfl i40 (by decide) rfl ?_)
    refine sp rfl (OpT.lB (i := 0) rfl (dl rfl rfl) Tryd.underlying40 rfl rfl rfl rfl ?_)
    refine sp rfl (OpT.lenSlM (xs := l) (f := (cI .i64)) rfl (dl rfl rfl) Tryd.underlying40 rfl ?_)
    refine sp rfl (OpT.int2 rfl rfl (dl rfl rfl) rfl rfl ?_)
    refine TL'.nil (tN ?_)
    rcases bif_some h with ⟨ba, h⟩ | ⟨ba, h⟩
    · refine T.condT rfl ba ?_
      refine T.skip (tN ?_)
      refine T.seq ?_
      refine T.block ?_
      refine T.seq ?_
      refine DG.start ?_
      refine DG.step (c := ⟨some 77, .ptr a (0 + 5), [(6, .ptr a 0)], [], []⟩) (fun t hm => One.step rfl (.free rfl) (OpT.fP rfl (dl rfl rfl) Tryd.underlying42 rfl i40 (by decide) hm.s0 rfl)) (Ct.mo rfl rfl) ?_
      refine DG.step (c := ⟨some 78, .sl false 1 (l.map (cI .i64)), [(77, .ptr a (0 + 5))], [(0, .box a 42 [.d (.int .u8 s), .d (.int .u64 g.a0), .d (.int .u64 g.a1), .d (.int .u64 g.a2), .d (.int .u64 g.a3), .d (.sl false 1 (l.map (cI .i64))), .d (.int .i64 w), .d (.int .i64 y), .d (.str aa)])], []⟩) (fun t hm => One.step rfl (.free rfl) (OpT.lB (i := 0) rfl (dl rfl rfl) Tryd.underlying40 rfl hm.s0 hm.o0 rfl rfl)) (Ct.mo rfl rfl) ?_
      refine DG.mv rfl rfl rfl rfl rfl rfl ?_
      obtain ⟨ag, bc, h⟩ := bind_some h
      refine DG.step (c := ⟨some 80, .ref [.int .i64 ag], [(78, .sl false 1 (l.map (cI .i64))), (79, .int .i64 p)], [], []⟩) (fun t hm => One.step rfl (.free rfl) (OpT.indexSlM (xs := l) (f := (cI .i64)) (v := ag) rfl (dl rfl rfl) Tryd.underlying40 i3 hm.s0 hm.s1 bc rfl)) (Ct.mo rfl rfl) ?_
      refine DG.step (c := ⟨some 81, .int .i64 ag, [(80, .ref [.int .i64 ag])], [], []⟩) (fun t hm => One.step rfl (.free rfl) (OpT.loadRef rfl (dl rfl rfl) Tryd.underlying3 rfl hm.s0 rfl rfl)) (Ct.mo rfl rfl) ?_
      refine DG.step (c := ⟨some 82, .ptr b (0 + 5), [(7, .ptr b 0)], [], []⟩) (fun t hm => One.step rfl (.free rfl) (OpT.fP rfl (dl rfl rfl) Tryd.underlying42 rfl i40 (by decide) hm.s0 rfl)) (Ct.mo rfl rfl) ?_
      refine DG.step (c := ⟨some 83, .sl false 1 (m.map (cI .i64)), [(82, .ptr b (0 + 5))], [(1, .box b 42 [.d (.int .u8 ab), .d (.int .u64 j.a0), .d (.int .u64 j.a1), .d (.int .u64 j.a2), .d (.int .u64 j.a3), .d (.sl false 1 (m.map (cI .i64))), .d (.int .i64 ac), .d (.int .i64 ad), .d (.str af)])], []⟩) (fun t hm => One.step rfl (.free rfl) (OpT.lB (i := 1) rfl (dl rfl rfl) Tryd.underlying40 rfl hm.s0 hm.o0 rfl rfl)) (Ct.mo rfl rfl) ?_
      refine DG.mv rfl rfl rfl rfl rfl rfl ?_
      obtain ⟨ai, bd, h⟩ := bind_some h
      refine DG.step (c := ⟨some 85, .ref [.int .i64 ai], [(83, .sl false 1 (m.map (cI .i64))), (84, .int .i64 p)], [], []⟩) (fun t hm => One.step rfl (.free rfl) (OpT.indexSlM (xs := m) (f := (cI .i64)) (v := ai) rfl (dl rfl rfl) Tryd.underlying40 i3 hm.s0 hm.s1 bd rfl)) (Ct.mo rfl rfl) ?_
      refine DG.step (c := ⟨some 86, .int .i64 ai, [(85, .ref [.int .i64 ai])], [], []⟩) (fun t hm => One.step rfl (.free rfl) (OpT.loadRef rfl (dl rfl rfl) Tryd.underlying3 rfl hm.s0 rfl rfl)) (Ct.mo rfl rfl) ?_
      refine DG.step (c := ⟨some 87, .bool (ag != ai), [(81, .int .i64 ag), (86, .int .i64 ai)], [], []⟩) (fun t hm => One.step rfl (.free rfl) (OpT.int2 rfl rfl (dl rfl rfl) hm.s0 hm.s1 rfl)) (Ct.mo rfl rfl) ?_
      refine DG.fin (s1 := ⟨[(0, .sl flx0 9 (x0.map c_aNd)), (1, .sl flx1 9 (x1.map c_aNd)), (5, .int .i64 q), (6, .ptr a 0), (7, .ptr b 0), (8, .int .i64 p), (34, .ptr a (0 + 1)), (35, .agg (Arr4.dc .u64 aj)), (36, .ptr b (0 + 1)), (37, .agg (Arr4.dc .u64 al)), (38, .bool am), (41, .ptr a (0 + 6)), (42, .int .i64 an), (43, .ptr b (0 + 6)), (44, .int .i64 ap), (45, .bool aq), (48, .ptr a (0 + 7)), (49, .int .i64 au), (50, .ptr b (0 + 7)), (51, .int .i64 av), (52, .bool aw), (55, .ptr a (0 + 8)), (56, .str ay), (57, .ptr b (0 + 8)), (58, .str az), (59, .bool a4), (62, .ptr a (0 + 5)), (63, .sl false 1 (a5.map (cI .i64))), (64, .int .i64 a6), (65, .ptr b (0 + 5)), (66, .sl false 1 (a7.map (cI .i64))), (67, .int .i64 a8), (68, .bool a9), (87, .bool (ag != ai))], [.box a 42 [.d (.int .u8 s), .d (.int .u64 g.a0), .d (.int .u64 g.a1), .d (.int .u64 g.a2), .d (.int .u64 g.a3), .d (.sl false 1 (l.map (cI .i64))), .d (.int .i64 w), .d (.int .i64 y), .d (.str aa)], .box b 42 [.d (.int .u8 ab), .d (.int .u64 j.a0), .d (.int .u64 j.a1), .d (.int .u64 j.a2), .d (.int .u64 j.a3), .d (.sl false 1 (m.map (cI .i64))), .d (.int .i64 ac), .d (.int .i64 ad), .d (.str af)]]⟩) (ms := [0, 1, 0, 7, 15, 0, 32, 0, 224, 480, 1023]) TrydMixed rfl (by kernel_rfl) (by kernel_rfl) (by kernel_rfl) (.cons rfl (.cons rfl (.cons rfl (.cons rfl (.cons rfl (.cons rfl (.cons rfl (.cons rfl (.cons rfl (.cons rfl (.cons rfl (.cons rfl (.cons rfl (.cons rfl (.cons rfl (.cons rfl (.cons rfl (.cons rfl (.cons rfl (.cons rfl (.cons rfl (.cons rfl (.cons rfl (.cons rfl (.cons rfl (.cons rfl (.cons rfl (.cons rfl (.cons rfl (.cons rfl (.cons rfl (.cons rfl (.cons rfl (.cons rfl (.nil _))))))))))))))))))))))))))))))))))) rfl (fun u hu => (tN (T.by_turn hu ?_)))
      rcases bif_some h with ⟨bb, h⟩ | ⟨bb, h⟩
      · refine T.condT rfl bb ?_
        refine T.seq ?_
        refine T.rL ?_
        refine asg rfl rfl rfl rfl rfl ?_
        refine TL'.nil (tN ?_)
        refine T.ret (inBlock_ret (thenS_ret (thenS_ret (inBlock_ret (inBlock_ret (thenS_ret (thenS_ret (inBlock_ret (thenS_ret ?_)))))))))
        exact Fin.done (.cons _ _ _ _ (.tmp 4 _ rfl) .nil) (by cases h; exact ⟨rfl, rfl⟩)
      · refine T.condF rfl bb ?_
        refine T.skip (inBlock_normal (tN ?_))
        refine T.rL ?_
        refine mv rfl rfl rfl rfl rfl ?_
        refine sp rfl (OpT.int2 rfl rfl (dl rfl rfl) rfl rfl ?_)
        refine asg rfl rfl rfl rfl rfl ?_
        refine TL'.nil (tN ?_)
        refine TL.by_turn ?_ (ih x0 x1 q (wI (p + (1 : Int))) aj al am an ap aq au av aw ay az a4 a5 a6 a7 a8 a9 s g l w y aa ab j m ac ad af flx0 flx1 a b h)
        exact Turn.rp (.cons rfl (.cons rfl (.cons rfl (.cons rfl (.cons rfl (.cons rfl (.cons rfl (.cons rfl (.cons rfl (.cons rfl (.cons rfl (.cons rfl (.cons rfl (.cons rfl (.cons rfl (.cons rfl (.cons rfl (.cons rfl (.cons rfl (.cons rfl (.cons rfl (.cons rfl (.cons rfl (.cons rfl (.cons rfl (.cons rfl (.cons rfl (.cons rfl (.cons rfl (.cons rfl (.cons rfl (.cons rfl (.cons rfl (.nil _)))))))))))))))))))))))))))))))))) (.c .z (.c .z (.n _)))
    · refine T.condF rfl ba ?_
      refine T.exit (thenS_exit (thenS_exit (inBlock_exit (inBlock_normal (tN ?_)))))
      refine T.rL ?_
      refine mv rfl rfl rfl rfl rfl ?_
      refine sp rfl (OpT.int2 rfl rfl (dl rfl rfl) rfl rfl ?_)
      refine asg rfl rfl rfl rfl rfl ?_
      refine TL'.nil (tN ?_)
      refine TL.by_turn ?_ (hgo0 x0 x1 (wI (q + (1 : Int))) flx0 flx1 h)
      exact Turn.rp (.cons rfl (.cons rfl (.cons rfl (.nil _)))) (.n _)
theorem r4_Same_l0_T {r : Bool} (K : Nat) : ∀ (k : Nat), ∀ (x0 : List aNd) (x1 : List aNd) (u : Int) (flx0 : Bool) (flx1 : Bool), r4_Same_l0 K k x0 x1 u = some r → TL Tryd.prog 88 (Code.at [1, 1, 0, 1, 0, 0] (codeOf Tryd.f18)) ⟨[(0, .sl flx0 9 (x0.map c_aNd)), (1, .sl flx1 9 (x1.map c_aNd)), (5, .int .i64 u)], []⟩ (r4_Same_qb0x111 r) := by
  intro k
  induction k with
  | zero =>
    intro x0 x1 u flx0 flx1 h
    cases (show (none : Option Bool) = some r from h)
  | succ k ih =>
    intro x0 x1 u flx0 flx1 h
    rw [r4_Same_l0] at h
    refine TL.round ?_
    refine T.seq ?_
    refine T.seq ?_
    refine T.rL ?_
    refine mv rfl rfl rfl rfl rfl ?_
    refine mv rfl rfl rfl rfl rfl ?_
    refine sp rfl (OpT.lenSlM (xs := x0) (f := c_aNd) rfl (dl rfl rfl) Tryd.underlying22 rfl ?_)
    refine sp rfl (OpT.int2 rfl rfl (dl rfl rfl) rfl rfl ?_)
    refine TL'.nil (tN ?_)
    rcases bif_some h with ⟨w, h⟩ | ⟨w, h⟩
    · refine T.condT rfl w ?_
      refine T.skip (tN ?_)
      refine T.seq ?_
      refine T.block ?_
      refine T.seq ?_
      refine T.rL ?_
      refine mv rfl rfl rfl rfl rfl ?_
      refine mv rfl rfl rfl rfl rfl ?_
      obtain ⟨a, aa, h⟩ := bind_some h
      refine sp rfl (OpT.indexSlM (xs := x0) (f := c_aNd) (v := a) rfl (dl rfl rfl) Tryd.underlying22 i42 rfl rfl aa ?_)
      refine sp rfl (OpT.loadRefAgg rfl (dl rfl rfl) Tryd.underlying42 rfl i42 rfl (Nat.le_of_ble_eq_true rfl) ?_)
      refine sp rfl (OpT.alloc' rfl (dl rfl rfl) i42 rfl (fun ab => ?_))
      refine sp rfl (OpT.storeAggTo (i := 0) (cells' := [.d (.int .u8 a.Op), .d (.int .u64 a.S.a0), .d (.int .u64 a.S.a1), .d (.int .u64 a.S.a2), .d (.int .u64 a.S.a3), .d (.sl false 1 (a.L.map (cI .i64))), .d (.int .i64 a.Lo), .d (.int .i64 a.Hi), .d (.str a.Name)]) rfl rfl i42 rfl rfl rfl rfl (Nat.le_of_ble_eq_true rfl) rfl ?_)
      refine TL'.nil (tN ?_)
      refine T.seq ?_
      refine T.rL ?_
      refine mv rfl rfl rfl rfl rfl ?_
      refine mv rfl rfl rfl rfl rfl ?_
      obtain ⟨b, ac, h⟩ := bind_some h
      refine sp rfl (OpT.indexSlM (xs := x1) (f := c_aNd) (v := b) rfl (dl rfl rfl) Tryd.underlying22 i42 rfl rfl ac ?_)
      refine sp rfl (OpT.loadRefAgg rfl (dl rfl rfl) Tryd.underlying42 rfl i42 rfl (Nat.le_of_ble_eq_true rfl) ?_)
      refine sp rfl (OpT.alloc' rfl (dl rfl rfl) i42 rfl (fun ad => ?_))
      refine sp rfl (OpT.storeAggTo (i := 0) (cells' := [.d (.int .u8 b.Op), .d (.int .u64 b.S.a0), .d (.int .u64 b.S.a1), .d (.int .u64 b.S.a2), .d (.int .u64 b.S.a3), .d (.sl false 1 (b.L.map (cI .i64))), .d (.int .i64 b.Lo), .d (.int .i64 b.Hi), .d (.str b.Name)]) rfl rfl i42 rfl rfl rfl rfl (Nat.le_of_ble_eq_true rfl) rfl ?_)
      refine TL'.nil (tN ?_)
      refine T.seq ?_
      refine T.seq ?_
      refine T.rL ?_
      refine sp rfl (OpT.fP rfl (dl rfl rfl) Tryd.underlying42 rfl i5 (by decide) rfl ?_)
      refine sp rfl (OpT.lB (i := 1) rfl (dl rfl rfl) Tryd.underlying5 rfl rfl rfl rfl ?_)
      refine sp rfl (OpT.fP rfl (dl rfl rfl) Tryd.underlying42 rfl i5 (by decide) rfl ?_)
      refine sp rfl (OpT.lB (i := 0) rfl (dl rfl rfl) Tryd.underlying5 rfl rfl rfl rfl ?_)
      refine sp rfl (OpT.int2 rfl rfl (dl rfl rfl) rfl rfl ?_)
      refine mv rfl rfl rfl rfl rfl ?_
      rcases bif_some h with ⟨j, h⟩ | ⟨j, h⟩
      · refine TL'.pU (.off _ _ _ _ rfl rfl rfl j) (dl rfl rfl) ?_
        refine TL'.pU (.off _ _ _ _ rfl rfl rfl j) (dl rfl rfl) ?_
        refine TL'.pU (.off _ _ _ _ rfl rfl rfl j) (dl rfl rfl) ?_
        refine TL'.pU (.off _ _ _ _ rfl rfl rfl j) (dl rfl rfl) ?_
        refine TL'.pU (.off _ _ _ _ rfl rfl rfl j) (dl rfl rfl) ?_
        refine sp rfl (OpT.pickT rfl (dl rfl rfl) rfl j rfl ?_)
        refine mv rfl rfl rfl rfl rfl ?_
        refine TL'.pU (.off _ _ _ _ rfl rfl rfl rfl) (dl rfl rfl) ?_
        refine TL'.pU (.off _ _ _ _ rfl rfl rfl rfl) (dl rfl rfl) ?_
        refine TL'.pU (.off _ _ _ _ rfl rfl rfl rfl) (dl rfl rfl) ?_
        refine TL'.pU (.off _ _ _ _ rfl rfl rfl rfl) (dl rfl rfl) ?_
        refine TL'.pU (.off _ _ _ _ rfl rfl rfl rfl) (dl rfl rfl) ?_
        refine sp rfl (OpT.pickT rfl (dl rfl rfl) rfl rfl rfl ?_)
        refine mv rfl rfl rfl rfl rfl ?_
        refine TL'.pU (.off _ _ _ _ rfl rfl rfl rfl) (dl rfl rfl) ?_
        refine TL'.pU (.off _ _ _ _ rfl rfl rfl rfl) (dl rfl rfl) ?_
        refine TL'.pU (.off _ _ _ _ rfl rfl rfl rfl) (dl rfl rfl) ?_
        refine TL'.pU (.off _ _ _ _ rfl rfl rfl rfl) (dl rfl rfl) ?_
        refine TL'.pU (.off _ _ _ _ rfl rfl rfl rfl) (dl rfl rfl) ?_
        refine sp rfl (OpT.pickT rfl (dl rfl rfl) rfl rfl rfl ?_)
        refine mv rfl rfl rfl rfl rfl ?_
        refine TL'.pU (.off _ _ _ _ rfl rfl rfl rfl) (dl rfl rfl) ?_
        refine TL'.pU (.off _ _ _ _ rfl rfl rfl rfl) (dl rfl rfl) ?_
        refine TL'.pU (.off _ _ _ _ rfl rfl rfl rfl) (dl rfl rfl) ?_
        refine TL'.pU (.off _ _ _ _ rfl rfl rfl rfl) (dl rfl rfl) ?_
        refine TL'.pU (.off _ _ _ _ rfl rfl rfl rfl) (dl rfl rfl) ?_
        refine sp rfl (OpT.pickT rfl (dl rfl rfl) rfl rfl rfl ?_)
        refine mv rfl rfl rfl rfl rfl ?_
        refine TL'.pU (.off _ _ _ _ rfl rfl rfl rfl) (dl rfl rfl) ?_
        refine TL'.pU (.off _ _ _ _ rfl rfl rfl rfl) (dl rfl rfl) ?_
        refine TL'.pU (.off _ _ _ _ rfl rfl rfl rfl) (dl rfl rfl) ?_
        refine TL'.pU (.off _ _ _ _ rfl rfl rfl rfl) (dl rfl rfl) ?_
        refine TL'.pU (.off _ _ _ _ rfl rfl rfl rfl) (dl rfl rfl) ?_
        refine TL'.pU (.off _ _ _ _ rfl rfl rfl rfl) (dl rfl rfl) ?_
        refine TL'.pU (.off _ _ _ _ rfl rfl rfl rfl) (dl rfl rfl) ?_
        refine sp rfl (OpT.pickT rfl (dl rfl rfl) rfl rfl rfl ?_)
        refine TL'.nil (tN ?_)
        refine T.condT rfl rfl ?_
        refine T.by_turn ?_ (r4_Same_j1_T K h)
        exact Turn.rp (.nil _) (.n _)
      · refine TL'.step (.on rfl rfl rfl j) (OpT.fP rfl (dl rfl rfl) Tryd.underlying42 rfl i25 (by decide) rfl ?_)
        refine TL'.step (.on rfl rfl rfl j) (OpT.lBAgg (i := 1) (l := (Arr4.dc .u64 a.S)) rfl (dl rfl rfl) Tryd.underlying25 rfl i25 rfl rfl rfl rfl ?_)
        refine TL'.step (.on rfl rfl rfl j) (OpT.fP rfl (dl rfl rfl) Tryd.underlying42 rfl i25 (by decide) rfl ?_)
        refine TL'.step (.on rfl rfl rfl j) (OpT.lBAgg (i := 0) (l := (Arr4.dc .u64 b.S)) rfl (dl rfl rfl) Tryd.underlying25 rfl i25 rfl rfl rfl rfl ?_)
        refine TL'.step (.on rfl rfl rfl j) (OpT.intsNeq (k := .u64) (xs := [a.S.a0, a.S.a1, a.S.a2, a.S.a3]) (ys := [b.S.a0, b.S.a1, b.S.a2, b.S.a3]) rfl (dl rfl rfl) Tryd.underlying25 Tryd.underlying23 i23 Tryd.eqGuardType25 rfl rfl rfl rfl rfl rfl (Arr4.same_eq a.S b.S) ?_)
        refine sp rfl (OpT.pickF rfl (dl rfl rfl) rfl j rfl ?_)
        refine mv rfl rfl rfl rfl rfl ?_
        rcases bif_some h with ⟨m, h⟩ | ⟨m, h⟩
        · refine TL'.pU (.off _ _ _ _ rfl rfl rfl m) (dl rfl rfl) ?_
          refine TL'.pU (.off _ _ _ _ rfl rfl rfl m) (dl rfl rfl) ?_
          refine TL'.pU (.off _ _ _ _ rfl rfl rfl m) (dl rfl rfl) ?_
          refine TL'.pU (.off _ _ _ _ rfl rfl rfl m) (dl rfl rfl) ?_
          refine TL'.pU (.off _ _ _ _ rfl rfl rfl m) (dl rfl rfl) ?_
          refine sp rfl (OpT.pickT rfl (dl rfl rfl) rfl m rfl ?_)
          refine mv rfl rfl rfl rfl rfl ?_
          refine TL'.pU (.off _ _ _ _ rfl rfl rfl rfl) (dl rfl rfl) ?_
          refine TL'.pU (.off _ _ _ _ rfl rfl rfl rfl) (dl rfl rfl) ?_
          refine TL'.pU (.off _ _ _ _ rfl rfl rfl rfl) (dl rfl rfl) ?_
          refine TL'.pU (.off _ _ _ _ rfl rfl rfl rfl) (dl rfl rfl) ?_
          refine TL'.pU (.off _ _ _ _ rfl rfl rfl rfl) (dl rfl rfl) ?_
          refine sp rfl (OpT.pickT rfl (dl rfl rfl) rfl rfl rfl ?_)
          refine mv rfl rfl rfl rfl rfl ?_
          refine TL'.pU (.off _ _ _ _ rfl rfl rfl rfl) (dl rfl rfl) ?_
          refine TL'.pU (.off _ _ _ _ rfl rfl rfl rfl) (dl rfl rfl) ?_
          refine TL'.pU (.off _ _ _ _ rfl rfl rfl rfl) (dl rfl rfl) ?_
          refine TL'.pU (.off _ _ _ _ rfl rfl rfl rfl) (dl rfl rfl) ?_
          refine TL'.pU (.off _ _ _ _ rfl rfl rfl rfl) (dl rfl rfl) ?_
          refine sp rfl (OpT.pickT rfl (dl rfl rfl) rfl rfl rfl ?_)
          refine mv rfl rfl rfl rfl rfl ?_
          refine TL'.pU (.off _ _ _ _ rfl rfl rfl rfl) (dl rfl rfl) ?_
          refine TL'.pU (.off _ _ _ _ rfl rfl rfl rfl) (dl rfl rfl) ?_
          refine TL'.pU (.off _ _ _ _ rfl rfl rfl rfl) (dl rfl rfl) ?_
          refine TL'.pU (.off _ _ _ _ rfl rfl rfl rfl) (dl rfl rfl) ?_
          refine TL'.pU (.off _ _ _ _ rfl rfl rfl rfl) (dl rfl rfl) ?_
          refine TL'.pU (.off _ _ _ _ rfl rfl rfl rfl) (dl rfl rfl) ?_
          refine TL'.pU (.off _ _ _ _ rfl rfl rfl rfl) (dl rfl rfl) ?_
          refine sp rfl (OpT.pickT rfl (dl rfl rfl) rfl rfl rfl ?_)
          refine TL'.nil (tN ?_)
          refine T.condT rfl rfl ?_
          refine T.by_turn ?_ (r4_Same_j1_T K h)
          exact Turn.rp (.nil _) (.n _)
        · refine TL'.step (.on rfl rfl rfl m) (OpT.fP rfl (dl rfl rfl) Tryd.underlying42 rfl i3 (by decide) rfl ?_)
          refine TL'.step (.on rfl rfl rfl m) (OpT.lB (i := 1) rfl (dl rfl rfl) Tryd.underlying3 rfl rfl rfl rfl ?_)
          refine TL'.step (.on rfl rfl rfl m) (OpT.fP rfl (dl rfl rfl) Tryd.underlying42 rfl i3 (by decide) rfl ?_)
          refine TL'.step (.on rfl rfl rfl m) (OpT.lB (i := 0) rfl (dl rfl rfl) Tryd.underlying3 rfl rfl rfl rfl ?_)
          refine TL'.step (.on rfl rfl rfl m) (OpT.int2 rfl rfl (dl rfl rfl) rfl rfl ?_)
          refine sp rfl (OpT.pickF rfl (dl rfl rfl) rfl m rfl ?_)
          refine mv rfl rfl rfl rfl rfl ?_
          rcases bif_some h with ⟨p, h⟩ | ⟨p, h⟩
          · refine TL'.pU (.off _ _ _ _ rfl rfl rfl p) (dl rfl rfl) ?_
            refine TL'.pU (.off _ _ _ _ rfl rfl rfl p) (dl rfl rfl) ?_
            refine TL'.pU (.off _ _ _ _ rfl rfl rfl p) (dl rfl rfl) ?_
            refine TL'.pU (.off _ _ _ _ rfl rfl rfl p) (dl rfl rfl) ?_
            refine TL'.pU (.off _ _ _ _ rfl rfl rfl p) (dl rfl rfl) ?_
            refine sp rfl (OpT.pickT rfl (dl rfl rfl) rfl p rfl ?_)
            refine mv rfl rfl rfl rfl rfl ?_
            refine TL'.pU (.off _ _ _ _ rfl rfl rfl rfl) (dl rfl rfl) ?_
            refine TL'.pU (.off _ _ _ _ rfl rfl rfl rfl) (dl rfl rfl) ?_
            refine TL'.pU (.off _ _ _ _ rfl rfl rfl rfl) (dl rfl rfl) ?_
            refine TL'.pU (.off _ _ _ _ rfl rfl rfl rfl) (dl rfl rfl) ?_
            refine TL'.pU (.off _ _ _ _ rfl rfl rfl rfl) (dl rfl rfl) ?_
            refine sp rfl (OpT.pickT rfl (dl rfl rfl) rfl rfl rfl ?_)
            refine mv rfl rfl rfl rfl rfl ?_
            refine TL'.pU (.off _ _ _ _ rfl rfl rfl rfl) (dl rfl rfl) ?_
            refine TL'.pU (.off _ _ _ _ rfl rfl rfl rfl) (dl rfl rfl) ?_
            refine TL'.pU (.off _ _ _ _ rfl rfl rfl rfl) (dl rfl rfl) ?_
            refine TL'.pU (.off _ _ _ _ rfl rfl rfl rfl) (dl rfl rfl) ?_
            refine TL'.pU (.off _ _ _ _ rfl rfl rfl rfl) (dl rfl rfl) ?_
            refine TL'.pU (.off _ _ _ _ rfl rfl rfl rfl) (dl rfl rfl) ?_
            refine TL'.pU (.off _ _ _ _ rfl rfl rfl rfl) (dl rfl rfl) ?_
            refine sp rfl (OpT.pickT rfl (dl rfl rfl) rfl rfl rfl ?_)
            refine TL'.nil (tN ?_)
            refine T.condT rfl rfl ?_
            refine T.by_turn ?_ (r4_Same_j1_T K h)
            exact Turn.rp (.nil _) (.n _)
          · refine TL'.step (.on rfl rfl rfl p) (OpT.fP rfl (dl rfl rfl) Tryd.underlying42 rfl i3 (by decide) rfl ?_)
            refine TL'.step (.on rfl rfl rfl p) (OpT.lB (i := 1) rfl (dl rfl rfl) Tryd.underlying3 rfl rfl rfl rfl ?_)
            refine TL'.step (.on rfl rfl rfl p) (OpT.fP rfl (dl rfl rfl) Tryd.underlying42 rfl i3 (by decide) rfl ?_)
            refine TL'.step (.on rfl rfl rfl p) (OpT.lB (i := 0) rfl (dl rfl rfl) Tryd.underlying3 rfl rfl rfl rfl ?_)
            refine TL'.step (.on rfl rfl rfl p) (OpT.int2 rfl rfl (dl rfl rfl) rfl rfl ?_)
            refine sp rfl (OpT.pickF rfl (dl rfl rfl) rfl p rfl ?_)
            refine mv rfl rfl rfl rfl rfl ?_
            rcases bif_some h with ⟨q, h⟩ | ⟨q, h⟩
            · refine TL'.pU (.off _ _ _ _ rfl rfl rfl q) (dl rfl rfl) ?_
              refine TL'.pU (.off _ _ _ _ rfl rfl rfl q) (dl rfl rfl) ?_
              refine TL'.pU (.off _ _ _ _ rfl rfl rfl q) (dl rfl rfl) ?_
              refine TL'.pU (.off _ _ _ _ rfl rfl rfl q) (dl rfl rfl) ?_
              refine TL'.pU (.off _ _ _ _ rfl rfl rfl q) (dl rfl rfl) ?_
              refine sp rfl (OpT.pickT rfl (dl rfl rfl) rfl q rfl ?_)
              refine mv rfl rfl rfl rfl rfl ?_
              refine TL'.pU (.off _ _ _ _ rfl rfl rfl rfl) (dl rfl rfl) ?_
              refine TL'.pU (.off _ _ _ _ rfl rfl rfl rfl) (dl rfl rfl) ?_
              refine TL'.pU (.off _ _ _ _ rfl rfl rfl rfl) (dl rfl rfl) ?_
              refine TL'.pU (.off _ _ _ _ rfl rfl rfl rfl) (dl rfl rfl) ?_
              refine TL'.pU (.off _ _ _ _ rfl rfl rfl rfl) (dl rfl rfl) ?_
              refine TL'.pU (.off _ _ _ _ rfl rfl rfl rfl) (dl rfl rfl) ?_
              refine TL'.pU (.off _ _ _ _ rfl rfl rfl rfl) (dl rfl rfl) ?_
              refine sp rfl (OpT.pickT rfl (dl rfl rfl) rfl rfl rfl ?_)
              refine TL'.nil (tN ?_)
              refine T.condT rfl rfl ?_
              refine T.by_turn ?_ (r4_Same_j1_T K h)
              exact Turn.rp (.nil _) (.n _)
            · refine TL'.step (.on rfl rfl rfl q) (OpT.fP rfl (dl rfl rfl) Tryd.underlying42 rfl i9 (by decide) rfl ?_)
              refine TL'.step (.on rfl rfl rfl q) (OpT.lB (i := 1) rfl (dl rfl rfl) Tryd.underlying9 rfl rfl rfl rfl ?_)
              refine TL'.step (.on rfl rfl rfl q) (OpT.fP rfl (dl rfl rfl) Tryd.underlying42 rfl i9 (by decide) rfl ?_)
              refine TL'.step (.on rfl rfl rfl q) (OpT.lB (i := 0) rfl (dl rfl rfl) Tryd.underlying9 rfl rfl rfl rfl ?_)
              refine TL'.step (.on rfl rfl rfl q) (OpT.str_neq rfl (dl rfl rfl) rfl rfl ?_)
              refine sp rfl (OpT.pickF rfl (dl rfl rfl) rfl q rfl ?_)
              refine mv rfl rfl rfl rfl rfl ?_
              rcases bif_some h with ⟨g, h⟩ | ⟨g, h⟩
              · refine TL'.pU (.off _ _ _ _ rfl rfl rfl g) (dl rfl rfl) ?_
                refine TL'.pU (.off _ _ _ _ rfl rfl rfl g) (dl rfl rfl) ?_
                refine TL'.pU (.off _ _ _ _ rfl rfl rfl g) (dl rfl rfl) ?_
                refine TL'.pU (.off _ _ _ _ rfl rfl rfl g) (dl rfl rfl) ?_
                refine TL'.pU (.off _ _ _ _ rfl rfl rfl g) (dl rfl rfl) ?_
                refine TL'.pU (.off _ _ _ _ rfl rfl rfl g) (dl rfl rfl) ?_
                refine TL'.pU (.off _ _ _ _ rfl rfl rfl g) (dl rfl rfl) ?_
                refine sp rfl (OpT.pickT rfl (dl rfl rfl) rfl g rfl ?_)
                refine TL'.nil (tN ?_)
                refine T.condT rfl rfl ?_
                refine T.by_turn ?_ (r4_Same_j1_T K h)
                exact Turn.rp (.nil _) (.n _)
              · refine TL'.step (.on rfl rfl rfl g) (OpT.fP rfl (dl rfl rfl) Tryd.underlying42 rfl i40 (by decide) rfl ?_)
                refine TL'.step (.on rfl rfl rfl g) (OpT.lB (i := 1) rfl (dl rfl rfl) Tryd.underlying40 rfl rfl rfl rfl ?_)
                refine TL'.step (.on rfl rfl rfl g) (OpT.lenSlM (xs := a.L) (f := (cI .i64)) rfl (dl rfl rfl) Tryd.underlying40 rfl ?_)
                refine TL'.step (.on rfl rfl rfl g) (OpT.fP rfl (dl rfl rfl) Tryd.underlying42 rfl i40 (by decide) rfl ?_)
                refine TL'.step (.on rfl rfl rfl g) (OpT.lB (i := 0) rfl (dl rfl rfl) Tryd.underlying40 rfl rfl rfl rfl ?_)
                refine TL'.step (.on rfl rfl rfl g) (OpT.lenSlM (xs := b.L) (f := (cI .i64)) rfl (dl rfl rfl) Tryd.underlying40 rfl ?_)
                refine TL'.step (.on rfl rfl rfl g) (OpT.int2 rfl rfl (dl rfl rfl) rfl rfl ?_)
                refine sp rfl (OpT.pickF rfl (dl rfl rfl) rfl g rfl ?_)
                refine TL'.nil (tN ?_)
                rcases bif_some h with ⟨y, h⟩ | ⟨y, h⟩
                · refine T.condT rfl y ?_
                  refine T.by_turn ?_ (r4_Same_j1_T K h)
                  exact Turn.rp (.nil _) (.n _)
                · refine T.condF rfl y ?_
                  refine T.skip (tN ?_)
                  refine T.seq ?_
                  refine T.rL ?_
                  refine asg rfl rfl rfl rfl rfl ?_
                  refine TL'.nil (tN ?_)
                  refine T.block ?_
                  refine T.loop ?_
                  refine TL.by_turn ?_ (r4_Same_l2_T K (r4_Same_l0 K k) ih K x0 x1 u (0 : Int) a.S b.S (!(Arr4.same a.S b.S)) a.Lo b.Lo (a.Lo != b.Lo) a.Hi b.Hi (a.Hi != b.Hi) a.Name b.Name (!(a.Name.toList == b.Name.toList)) a.L (a.L.length : Int) b.L (b.L.length : Int) ((a.L.length : Int) != (b.L.length : Int)) a.Op a.S a.L a.Lo a.Hi a.Name b.Op b.S b.L b.Lo b.Hi b.Name flx0 flx1 ab ad h)
                  exact Turn.rp (.cons rfl (.cons rfl (.cons rfl (.cons rfl (.cons rfl (.cons rfl (.cons rfl (.cons rfl (.cons rfl (.cons rfl (.cons rfl (.cons rfl (.cons rfl (.cons rfl (.cons rfl (.cons rfl (.cons rfl (.cons rfl (.cons rfl (.cons rfl (.cons rfl (.cons rfl (.cons rfl (.cons rfl (.cons rfl (.cons rfl (.cons rfl (.cons rfl (.cons rfl (.cons rfl (.cons rfl (.cons rfl (.cons rfl (.nil _)))))))))))))))))))))))))))))))))) (.c (.s .z) (.c .z (.n _)))
    · refine T.condF rfl w ?_
      refine T.exit (thenS_exit (thenS_exit (inBlock_exit (tN ?_))))
      refine T.seq ?_
      refine T.rL ?_
      refine asg rfl rfl rfl rfl rfl ?_
      refine TL'.nil (tN ?_)
      refine T.ret ?_
      exact Fin.done (.cons _ _ _ _ (.tmp 4 _ rfl) .nil) (by cases h; exact ⟨rfl, rfl⟩)
theorem r4_Same_T (K : Nat) {x0 : List aNd} {x1 : List aNd} {flx0 : Bool} {flx1 : Bool} {r : Bool} (h : r4_Same K x0 x1 = some r) : CallR Tryd.prog 18 [.sl flx0 9 (x0.map c_aNd), .sl flx1 9 (x1.map c_aNd)] [] (.bool r) := by
 refine CallT.intro Tryd.func18 rfl (nb rfl) ?_
 show T Tryd.prog 88 (Code.at [] (codeOf Tryd.f18)) ⟨paramSlots 0 [.sl flx0 9 (x0.map c_aNd), .sl flx1 9 (x1.map c_aNd)], []⟩ (r4_Same_q r)
 unfold r4_Same at h
 refine T.seq (T.rL ?_)
 refine aw rfl ?_
 refine TL'.nil (tN ?_)
 refine T.seq ?_
 refine T.seq (T.rL ?_)
 refine mw rfl ?_
 refine sp rfl (OpT.lenSlM (xs := x0) (f := c_aNd) rfl (dk rfl) ul22 rfl ?_)
 refine mw rfl ?_
 refine sp rfl (OpT.lenSlM (xs := x1) (f := c_aNd) rfl (dk rfl) ul22 rfl ?_)
 refine sp rfl (OpT.int2 rfl rfl (dk rfl) rfl rfl ?_)
 refine TL'.nil (tN ?_)
 rcases bif_some h with ⟨a, h⟩ | ⟨a, h⟩
 refine T.condT rfl a ?_
 refine T.seq (T.rL ?_)
 refine aw rfl ?_
 refine TL'.nil (tN ?_)
 refine T.ret (thenS_ret ?_)
 exact Fin.done (.cons _ _ _ _ (.tmp 4 _ rfl) .nil) (by cases h; exact ⟨rfl, rfl⟩)
 refine T.condF rfl a ?_
 refine T.skip (tN ?_)
 refine T.seq ?_
 refine T.seq (T.rL ?_)
 refine aw rfl ?_
 refine TL'.nil (tN ?_)
 refine T.block ?_
 refine T.loop ?_
 refine TL.by_turn ?_ (r4_Same_l0_T K K x0 x1 (0 : Int) flx0 flx1 h)
 exact Turn.rp (.cons rfl (.cons rfl (.cons rfl (.nil _)))) (.n _)
end Go.Rv

/- Each function computes what its plain text says: printed by a program of ours. -/
import Derived.Test.YtocjhbbldeankaaDoorRgW1
namespace Go.Rv
open Go.Proofs
set_option maxRecDepth 100000
set_option maxHeartbeats 4000000
set_option linter.unusedVariables false
abbrev r4r_item_q (bx0 : Nat) (r : Int × r4r) : Exit → St → Prop := retS Tryd.prog Tryd.f82 (fun y t => ∃ γ : Nat → Value, y = (.int .i64 r.1) ∧ t = [(o88 bx0 r.2.s r.2.at_ (γ 0) r.2.deep r.2.e r.2.where_), .arrA (γ 0) 42 9 (r.2.nodes.map c_aNd)])
abbrev r4r_item_qs111 (bx0 : Nat) (r : Int × r4r) : Exit → St → Prop := thenS (fun s' => T Tryd.prog 99 (Code.at [1, 1, 1] (codeOf Tryd.f82)) s' ((r4r_item_q bx0 r))) ((r4r_item_q bx0 r))
abbrev r4r_item_qb0x111 (bx0 : Nat) (r : Int × r4r) : Exit → St → Prop := inBlockS 0 ((r4r_item_qs111 bx0 r))
abbrev r4r_item_ql1100 (bx0 : Nat) (r : Int × r4r) : Exit → St → Prop := thenS (fun s' => TL Tryd.prog 99 (Code.at [1, 1, 0, 0, 0] (codeOf Tryd.f82)) s' ((r4r_item_qb0x111 bx0 r))) ((r4r_item_qb0x111 bx0 r))
abbrev r4r_item_qb1_0x1100 (bx0 : Nat) (r : Int × r4r) : Exit → St → Prop := inBlockS 1 ((r4r_item_ql1100 bx0 r))
abbrev r4r_item_qs1100010111 (bx0 : Nat) (r : Int × r4r) : Exit → St → Prop := thenS (fun s' => T Tryd.prog 99 (Code.at [1, 1, 0, 0, 0, 1, 0, 1, 1, 1] (codeOf Tryd.f82)) s' ((r4r_item_qb1_0x1100 bx0 r))) ((r4r_item_qb1_0x1100 bx0 r))
abbrev r4r_item_qb2_1_0x1100010111 (bx0 : Nat) (r : Int × r4r) : Exit → St → Prop := inBlockS 2 ((r4r_item_qs1100010111 bx0 r))
theorem r4r_item_j1_T {r : Int × r4r} (K : Nat) (rec_r4r_alternative : r4r → Option (Int × r4r)) (hrec_r4r_alternative : r4r_alternative_S rec_r4r_alternative) (bx0 : Nat) (b : Int) (c : ByteArray) (d : Int) (f : Int) (g : Int) (i : Int) (j : List aNd) (a : Value) (h : r4r_item_j1 K rec_r4r_alternative b c d f g i j = some r) : T Tryd.prog 99 (Code.at [1, 1, 0, 0, 0, 1, 0, 1, 1, 0, 0, 1, 1, 1, 1, 1, 1, 1, 1] (codeOf Tryd.f82)) ⟨[(3, .int .i64 b)], [(o88 bx0 c d a f g i), .arrA a 42 9 (j.map c_aNd)]⟩ (r4r_item_qb2_1_0x1100010111 bx0 r) := by
 unfold r4r_item_j1 at h
 refine T.seq (T.rL ?_)
 refine mw rfl ?_
 refine aw rfl ?_
 refine TL'.nil (tN ?_)
 refine T.ret (inBlock_ret (thenS_ret (inBlock_ret (thenS_ret (inBlock_ret (thenS_ret ?_))))))
 exact Fin.doneK (.cons _ _ _ _ (.tmp 2 _ rfl) .nil) (.cons 0 rfl (.cons 0 rfl (.nil _))) (by cases h; exact ⟨gl [a], rfl, rfl⟩)
theorem r4r_item_l0_T {r : Int × r4r} (K : Nat) (rec_r4r_alternative : r4r → Option (Int × r4r)) (hrec_r4r_alternative : r4r_alternative_S rec_r4r_alternative) (bx0 : Nat) : ∀ (k : Nat), ∀ (q : Int) (b : ByteArray) (a : Int) (j : Int) (m : Int) (p : Int) (w : List aNd) (ab : Value), r4r_item_l0 K rec_r4r_alternative k q b a j m p w = some r → TL Tryd.prog 99 (Code.at [1, 1, 0, 0, 0] (codeOf Tryd.f82)) ⟨[(0, .ptr bx0 0), (3, .int .i64 q)], [(o88 bx0 b a ab j m p), .arrA ab 42 9 (w.map c_aNd)]⟩ (r4r_item_qb0x111 bx0 r) := by
  intro k
  induction k with
  | zero =>
    intro q b a j m p w ab h
    cases (show (none : Option (Int × r4r)) = some r from h)
  | succ k ih =>
    intro q b a j m p w ab h
    rw [r4r_item_l0] at h
    refine TL.round ?_
    refine T.seq ?_
    refine T.seq ?_
    refine T.rL ?_
    refine mv rfl rfl rfl rfl rfl ?_
    obtain ⟨ay, ap, h⟩ := bind_some h
    refine sp rfl (OpT.callG (is := [0, 1]) (ph := []) rfl (dl rfl rfl) Tryd.func49 rfl rfl (Args.cons rfl Args.nil) (r4r_ends_T K (bx0 := bx0) (wx0c2 := ab) ap) (.cons rfl rfl (.cons rfl rfl (.nil))) (fun _ => rfl) (fun g => ?_))
    refine nm (.c (.c (.n))) ?_
    refine sp rfl (OpT.not rfl (dl rfl rfl) rfl ?_)
    refine TL'.nil (tN ?_)
    rcases bif_some h with ⟨ac, h⟩ | ⟨ac, h⟩
    · refine T.condT rfl ac ?_
      refine T.skip (tN ?_)
      refine T.block ?_
      refine T.seq ?_
      refine T.rL ?_
      refine asg rfl rfl rfl rfl rfl ?_
      refine asg rfl rfl rfl rfl rfl ?_
      refine TL'.nil (tN ?_)
      refine T.seq ?_
      refine DG.start ?_
      refine DG.mv rfl rfl rfl rfl rfl rfl ?_
      refine DG.step (c := ⟨some 13, .ptr bx0 0, [(12, .ptr bx0 0)], [], []⟩) (fun t hm => One.step rfl (.free rfl) (OpT.nilCheck rfl (dl rfl rfl) hm.s0 rfl rfl)) (Ct.mo rfl rfl) ?_
      refine DG.step (c := ⟨some 14, .ptr bx0 (0 + 0), [(13, .ptr bx0 0)], [], []⟩) (fun t hm => One.step rfl (.free rfl) (OpT.fP rfl (dl rfl rfl) Tryd.underlying88 rfl i9 (by decide) hm.s0 rfl)) (Ct.mo rfl rfl) ?_
      refine DG.step (c := ⟨some 15, .str b, [(14, .ptr bx0 (0 + 0))], [(0, (o88 bx0 b a (g 0) j m p))], []⟩) (fun t hm => One.step rfl (.free rfl) (OpT.lB (i := 0) rfl (dl rfl rfl) Tryd.underlying9 rfl hm.s0 hm.o0 rfl rfl)) (Ct.mo rfl rfl) ?_
      refine DG.mv rfl rfl rfl rfl rfl rfl ?_
      refine DG.step (c := ⟨some 17, .ptr bx0 0, [(16, .ptr bx0 0)], [], []⟩) (fun t hm => One.step rfl (.free rfl) (OpT.nilCheck rfl (dl rfl rfl) hm.s0 rfl rfl)) (Ct.mo rfl rfl) ?_
      refine DG.step (c := ⟨some 18, .ptr bx0 (0 + 1), [(17, .ptr bx0 0)], [], []⟩) (fun t hm => One.step rfl (.free rfl) (OpT.fP rfl (dl rfl rfl) Tryd.underlying88 rfl i3 (by decide) hm.s0 rfl)) (Ct.mo rfl rfl) ?_
      refine DG.step (c := ⟨some 19, .int .i64 a, [(18, .ptr bx0 (0 + 1))], [(0, (o88 bx0 b a (g 0) j m p))], []⟩) (fun t hm => One.step rfl (.free rfl) (OpT.lB (i := 0) rfl (dl rfl rfl) Tryd.underlying3 rfl hm.s0 hm.o0 rfl rfl)) (Ct.mo rfl rfl) ?_
      obtain ⟨al, h⟩ := ck_some h
      refine DG.step (c := ⟨some 20, .int .u8 (bt b a), [(15, .str b), (19, .int .i64 a)], [], []⟩) (fun t hm => One.step rfl (.free rfl) (OpT.indexStr rfl (dl rfl rfl) Tryd.underlying9 hm.s0 hm.s1 al.1 al.2 rfl)) (Ct.mo rfl rfl) ?_
      refine DG.step (c := ⟨some 6, .int .u8 (bt b a), [(20, .int .u8 (bt b a))], [], []⟩) (fun t hm => One.step rfl (.free rfl) (OpT.assign rfl (dl rfl rfl) hm.s0 rfl)) (Ct.mo rfl rfl) ?_
      refine DG.fin (s1 := ⟨[(0, .ptr bx0 0), (3, .int .i64 q), (4, .int .i64 (0 : Int)), (5, .int .i64 (-1 : Int)), (6, .int .u8 (bt b a))], [(o88 bx0 b a (g 0) j m p), .arrA (g 0) 42 9 ((w).map c_aNd)]⟩) (ms := [0, 1, 3, 7, 0, 16, 48, 112, 255, 511]) TrydMixed rfl (by kernel_rfl) (by kernel_rfl) (by kernel_rfl) (.cons rfl (.cons rfl (.cons rfl (.cons rfl (.cons rfl (.nil _)))))) rfl (fun u hu => (tN (T.by_turn hu ?_)))
      refine T.seq ?_
      refine T.block ?_
      refine T.seq ?_
      refine T.rL ?_
      refine mv rfl rfl rfl rfl rfl ?_
      refine sp rfl (OpT.int2 rfl rfl (dl rfl rfl) rfl rfl ?_)
      refine asg rfl rfl rfl rfl rfl ?_
      refine TL'.nil (tN ?_)
      rcases bif_some h with ⟨ad, h⟩ | ⟨ad, h⟩
      · refine T.condT rfl ad ?_
        refine T.rL ?_
        cases h
      · refine T.condF rfl ad ?_
        refine T.seq ?_
        refine T.rL ?_
        refine mv rfl rfl rfl rfl rfl ?_
        refine sp rfl (OpT.int2 rfl rfl (dl rfl rfl) rfl rfl ?_)
        refine asg rfl rfl rfl rfl rfl ?_
        refine TL'.nil (tN ?_)
        rcases bif_some h with ⟨af, h⟩ | ⟨af, h⟩
        · refine T.condT rfl af ?_
          refine T.seq ?_
          refine T.rL ?_
          cases h
        · refine T.condF rfl af ?_
          refine T.seq ?_
          refine T.rL ?_
          refine mv rfl rfl rfl rfl rfl ?_
          refine sp rfl (OpT.int2 rfl rfl (dl rfl rfl) rfl rfl ?_)
          refine asg rfl rfl rfl rfl rfl ?_
          refine TL'.nil (tN ?_)
          rcases bif_some h with ⟨ag, h⟩ | ⟨ag, h⟩
          · refine T.condT rfl ag ?_
            refine T.seq ?_
            refine T.rL ?_
            cases h
          · refine T.condF rfl ag ?_
            refine T.seq ?_
            refine DG.start ?_
            refine DG.mv rfl rfl rfl rfl rfl rfl ?_
            refine DG.step (c := ⟨some 54, .bool ((bt b a) == (123 : Int)), [(53, .int .u8 (bt b a))], [], []⟩) (fun t hm => One.step rfl (.free rfl) (OpT.int2 rfl rfl (dl rfl rfl) hm.s0 rfl rfl)) (Ct.mo rfl rfl) ?_
            refine DG.mv rfl rfl rfl rfl rfl rfl ?_
            rcases bif_some h with ⟨d, h⟩ | ⟨d, h⟩
            · refine DG.step (c := ⟨some 56, .ptr bx0 0, [(0, .ptr bx0 0), (55, .bool ((bt b a) == (123 : Int)))], [], []⟩) (fun t hm => One.step rfl (.on rfl rfl hm.s1 d) (OpT.move rfl (dl rfl rfl) hm.s0 rfl)) (Ct.mo rfl rfl) ?_
              refine DG.step (c := ⟨some 57, .ptr bx0 0, [(56, .ptr bx0 0), (55, .bool ((bt b a) == (123 : Int)))], [], []⟩) (fun t hm => One.step rfl (.on rfl rfl hm.s1 d) (OpT.nilCheck rfl (dl rfl rfl) hm.s0 rfl rfl)) (Ct.mo rfl rfl) ?_
              refine DG.step (c := ⟨some 58, .ptr bx0 (0 + 1), [(57, .ptr bx0 0), (55, .bool ((bt b a) == (123 : Int)))], [], []⟩) (fun t hm => One.step rfl (.on rfl rfl hm.s1 d) (OpT.fP rfl (dl rfl rfl) Tryd.underlying88 rfl i3 (by decide) hm.s0 rfl)) (Ct.mo rfl rfl) ?_
              refine DG.step (c := ⟨some 59, .int .i64 a, [(58, .ptr bx0 (0 + 1)), (55, .bool ((bt b a) == (123 : Int)))], [(0, (o88 bx0 b a (g 0) j m p))], []⟩) (fun t hm => One.step rfl (.on rfl rfl hm.s1 d) (OpT.lB (i := 0) rfl (dl rfl rfl) Tryd.underlying3 rfl hm.s0 hm.o0 rfl rfl)) (Ct.mo rfl rfl) ?_
              refine DG.step (c := ⟨some 60, .int .i64 (wI (a + (1 : Int))), [(59, .int .i64 a), (55, .bool ((bt b a) == (123 : Int)))], [], []⟩) (fun t hm => One.step rfl (.on rfl rfl hm.s1 d) (OpT.int2 rfl rfl (dl rfl rfl) hm.s0 rfl rfl)) (Ct.mo rfl rfl) ?_
              refine DG.step (c := ⟨some 61, .ptr bx0 0, [(0, .ptr bx0 0), (55, .bool ((bt b a) == (123 : Int)))], [], []⟩) (fun t hm => One.step rfl (.on rfl rfl hm.s1 d) (OpT.move rfl (dl rfl rfl) hm.s0 rfl)) (Ct.mo rfl rfl) ?_
              refine DG.step (c := ⟨some 62, .ptr bx0 0, [(61, .ptr bx0 0), (55, .bool ((bt b a) == (123 : Int)))], [], []⟩) (fun t hm => One.step rfl (.on rfl rfl hm.s1 d) (OpT.nilCheck rfl (dl rfl rfl) hm.s0 rfl rfl)) (Ct.mo rfl rfl) ?_
              refine DG.step (c := ⟨some 63, .ptr bx0 (0 + 0), [(62, .ptr bx0 0), (55, .bool ((bt b a) == (123 : Int)))], [], []⟩) (fun t hm => One.step rfl (.on rfl rfl hm.s1 d) (OpT.fP rfl (dl rfl rfl) Tryd.underlying88 rfl i9 (by decide) hm.s0 rfl)) (Ct.mo rfl rfl) ?_
              refine DG.step (c := ⟨some 64, .str b, [(63, .ptr bx0 (0 + 0)), (55, .bool ((bt b a) == (123 : Int)))], [(0, (o88 bx0 b a (g 0) j m p))], []⟩) (fun t hm => One.step rfl (.on rfl rfl hm.s1 d) (OpT.lB (i := 0) rfl (dl rfl rfl) Tryd.underlying9 rfl hm.s0 hm.o0 rfl rfl)) (Ct.mo rfl rfl) ?_
              refine DG.step (c := ⟨some 65, .int .i64 ((b).size : Int), [(64, .str b), (55, .bool ((bt b a) == (123 : Int)))], [], []⟩) (fun t hm => One.step rfl (.on rfl rfl hm.s1 d) (OpT.lenStr rfl (dl rfl rfl) Tryd.underlying9 hm.s0 rfl)) (Ct.mo rfl rfl) ?_
              refine DG.step (c := ⟨some 66, .bool (decide ((wI (a + (1 : Int))) < ((b).size : Int))), [(60, .int .i64 (wI (a + (1 : Int)))), (65, .int .i64 ((b).size : Int)), (55, .bool ((bt b a) == (123 : Int)))], [], []⟩) (fun t hm => One.step rfl (.on rfl rfl hm.s2 d) (OpT.int2 rfl rfl (dl rfl rfl) hm.s0 hm.s1 rfl)) (Ct.mo rfl rfl) ?_
              refine DG.step (c := ⟨some 67, .bool (decide ((wI (a + (1 : Int))) < ((b).size : Int))), [(55, .bool ((bt b a) == (123 : Int))), (66, .bool (decide ((wI (a + (1 : Int))) < ((b).size : Int))))], [], []⟩) (fun t hm => One.step rfl (.free rfl) (OpT.pickT rfl (dl rfl rfl) hm.s0 d hm.s1 rfl)) (Ct.mo rfl rfl) ?_
              refine DG.mv rfl rfl rfl rfl rfl rfl ?_
              rcases bif_some h with ⟨f, h⟩ | ⟨f, h⟩
              · refine DG.step (c := ⟨some 69, .ptr bx0 0, [(0, .ptr bx0 0), (68, .bool (decide ((wI (a + (1 : Int))) < ((b).size : Int))))], [], []⟩) (fun t hm => One.step rfl (.on rfl rfl hm.s1 f) (OpT.move rfl (dl rfl rfl) hm.s0 rfl)) (Ct.mo rfl rfl) ?_
                refine DG.step (c := ⟨some 70, .ptr bx0 0, [(69, .ptr bx0 0), (68, .bool (decide ((wI (a + (1 : Int))) < ((b).size : Int))))], [], []⟩) (fun t hm => One.step rfl (.on rfl rfl hm.s1 f) (OpT.nilCheck rfl (dl rfl rfl) hm.s0 rfl rfl)) (Ct.mo rfl rfl) ?_
                refine DG.step (c := ⟨some 71, .ptr bx0 (0 + 0), [(70, .ptr bx0 0), (68, .bool (decide ((wI (a + (1 : Int))) < ((b).size : Int))))], [], []⟩) (fun t hm => One.step rfl (.on rfl rfl hm.s1 f) (OpT.fP rfl (dl rfl rfl) Tryd.underlying88 rfl i9 (by decide) hm.s0 rfl)) (Ct.mo rfl rfl) ?_
                refine DG.step (c := ⟨some 72, .str b, [(71, .ptr bx0 (0 + 0)), (68, .bool (decide ((wI (a + (1 : Int))) < ((b).size : Int))))], [(0, (o88 bx0 b a (g 0) j m p))], []⟩) (fun t hm => One.step rfl (.on rfl rfl hm.s1 f) (OpT.lB (i := 0) rfl (dl rfl rfl) Tryd.underlying9 rfl hm.s0 hm.o0 rfl rfl)) (Ct.mo rfl rfl) ?_
                refine DG.step (c := ⟨some 73, .ptr bx0 0, [(0, .ptr bx0 0), (68, .bool (decide ((wI (a + (1 : Int))) < ((b).size : Int))))], [], []⟩) (fun t hm => One.step rfl (.on rfl rfl hm.s1 f) (OpT.move rfl (dl rfl rfl) hm.s0 rfl)) (Ct.mo rfl rfl) ?_
                refine DG.step (c := ⟨some 74, .ptr bx0 0, [(73, .ptr bx0 0), (68, .bool (decide ((wI (a + (1 : Int))) < ((b).size : Int))))], [], []⟩) (fun t hm => One.step rfl (.on rfl rfl hm.s1 f) (OpT.nilCheck rfl (dl rfl rfl) hm.s0 rfl rfl)) (Ct.mo rfl rfl) ?_
                refine DG.step (c := ⟨some 75, .ptr bx0 (0 + 1), [(74, .ptr bx0 0), (68, .bool (decide ((wI (a + (1 : Int))) < ((b).size : Int))))], [], []⟩) (fun t hm => One.step rfl (.on rfl rfl hm.s1 f) (OpT.fP rfl (dl rfl rfl) Tryd.underlying88 rfl i3 (by decide) hm.s0 rfl)) (Ct.mo rfl rfl) ?_
                refine DG.step (c := ⟨some 76, .int .i64 a, [(75, .ptr bx0 (0 + 1)), (68, .bool (decide ((wI (a + (1 : Int))) < ((b).size : Int))))], [(0, (o88 bx0 b a (g 0) j m p))], []⟩) (fun t hm => One.step rfl (.on rfl rfl hm.s1 f) (OpT.lB (i := 0) rfl (dl rfl rfl) Tryd.underlying3 rfl hm.s0 hm.o0 rfl rfl)) (Ct.mo rfl rfl) ?_
                refine DG.step (c := ⟨some 77, .int .i64 (wI (a + (1 : Int))), [(76, .int .i64 a), (68, .bool (decide ((wI (a + (1 : Int))) < ((b).size : Int))))], [], []⟩) (fun t hm => One.step rfl (.on rfl rfl hm.s1 f) (OpT.int2 rfl rfl (dl rfl rfl) hm.s0 rfl rfl)) (Ct.mo rfl rfl) ?_
                obtain ⟨am, h⟩ := ck_some h
                refine DG.step (c := ⟨some 78, .int .u8 (bt b (wI (a + (1 : Int)))), [(72, .str b), (77, .int .i64 (wI (a + (1 : Int)))), (68, .bool (decide ((wI (a + (1 : Int))) < ((b).size : Int))))], [], []⟩) (fun t hm => One.step rfl (.on rfl rfl hm.s2 f) (OpT.indexStr rfl (dl rfl rfl) Tryd.underlying9 hm.s0 hm.s1 am.1 am.2 rfl)) (Ct.mo rfl rfl) ?_
                obtain ⟨y, aq, h⟩ := bind_some h
                refine DG.step (c := ⟨some 79, .bool y, [(78, .int .u8 (bt b (wI (a + (1 : Int))))), (68, .bool (decide ((wI (a + (1 : Int))) < ((b).size : Int))))], [], []⟩) (fun t hm => One.step rfl (.on rfl rfl hm.s1 f) (OpT.callPA rfl (dl rfl rfl) Tryd.func81 rfl rfl (Args.cons hm.s0 Args.nil) (CallR.nil (r4_digit_T K aq)) rfl)) (Ct.mo rfl rfl) ?_
                refine DG.step (c := ⟨some 80, .bool y, [(68, .bool (decide ((wI (a + (1 : Int))) < ((b).size : Int)))), (79, .bool y)], [], []⟩) (fun t hm => One.step rfl (.free rfl) (OpT.pickT rfl (dl rfl rfl) hm.s0 f hm.s1 rfl)) (Ct.mo rfl rfl) ?_
                refine DG.step (c := ⟨some 52, .bool y, [(80, .bool y)], [], []⟩) (fun t hm => One.step rfl (.free rfl) (OpT.assign rfl (dl rfl rfl) hm.s0 rfl)) (Ct.mo rfl rfl) ?_
                refine DG.fin (s1 := ⟨[(0, .ptr bx0 0), (3, .int .i64 q), (52, .bool y), (56, .ptr bx0 0), (57, .ptr bx0 0), (58, .ptr bx0 (0 + 1)), (59, .int .i64 a), (60, .int .i64 (wI (a + (1 : Int)))), (61, .ptr bx0 0), (62, .ptr bx0 0), (63, .ptr bx0 (0 + 0)), (64, .str b), (65, .int .i64 ((b).size : Int)), (66, .bool (decide ((wI (a + (1 : Int))) < ((b).size : Int)))), (69, .ptr bx0 0), (70, .ptr bx0 0), (71, .ptr bx0 (0 + 0)), (72, .str b), (73, .ptr bx0 0), (74, .ptr bx0 0), (75, .ptr bx0 (0 + 1)), (76, .int .i64 a), (77, .int .i64 (wI (a + (1 : Int)))), (78, .int .u8 (bt b (wI (a + (1 : Int))))), (79, .bool y)], [(o88 bx0 b a (g 0) j m p), .arrA (g 0) 42 9 ((w).map c_aNd)]⟩) (ms := [0, 1, 3, 7, 15, 31, 63, 127, 7, 263, 775, 1799, 3847, 8191, 16383, 32767, 65535, 131071, 262143, 524287, 65535, 1114111, 3211263, 7405567, 15794175, 33554431, 67108863, 134217727, 268435455]) TrydMixed rfl (by kernel_rfl) (by kernel_rfl) (by kernel_rfl) (.cons rfl (.cons rfl (.cons rfl (.cons rfl (.cons rfl (.cons rfl (.cons rfl (.cons rfl (.cons rfl (.cons rfl (.cons rfl (.cons rfl (.cons rfl (.cons rfl (.cons rfl (.cons rfl (.cons rfl (.cons rfl (.cons rfl (.cons rfl (.cons rfl (.cons rfl (.cons rfl (.cons rfl (.cons rfl (.nil _)))))))))))))))))))))))))) rfl (fun u hu => (tN (T.by_turn hu ?_)))
                rcases bif_some h with ⟨ai, h⟩ | ⟨ai, h⟩
                · refine T.condT rfl ai ?_
                  refine T.rL ?_
                  refine mv rfl rfl rfl rfl rfl ?_
                  obtain ⟨v, au, h⟩ := bind_some h
                  refine sp rfl (OpT.callG (is := [0, 1]) (ph := []) rfl (dl rfl rfl) Tryd.func91 rfl rfl (Args.cons rfl Args.nil) (r4r_bounds_T K (bx0 := bx0) (wx0c2 := (g 0)) au) (.cons rfl rfl (.cons rfl rfl (.nil))) (fun _ => rfl) (fun an => ?_))
                  refine nm (.c (.c (.n))) ?_
                  refine mv rfl rfl rfl rfl rfl ?_
                  refine sp rfl (OpT.extract rfl (dl rfl rfl) rfl rfl ?_)
                  refine sp rfl (OpT.extract rfl (dl rfl rfl) rfl rfl ?_)
                  refine asg rfl rfl rfl rfl rfl ?_
                  refine asg rfl rfl rfl rfl rfl ?_
                  refine TL'.nil (inBlock_normal (tN ?_))
                  refine T.seq ?_
                  refine T.rL ?_
                  refine mv rfl rfl rfl rfl rfl ?_
                  refine sp rfl (OpT.nilCheck rfl (dl rfl rfl) rfl rfl ?_)
                  refine sp rfl (OpT.fP rfl (dl rfl rfl) Tryd.underlying88 rfl i35 (by decide) rfl ?_)
                  refine sp rfl (OpT.lB (i := 0) rfl (dl rfl rfl) Tryd.underlying35 rfl rfl rfl rfl ?_)
                  refine sp rfl (OpT.int2 rfl rfl (dl rfl rfl) rfl rfl ?_)
                  refine TL'.nil (tN ?_)
                  rcases bif_some h with ⟨aj, h⟩ | ⟨aj, h⟩
                  · refine T.condT rfl aj ?_
                    refine T.rL ?_
                    refine mv rfl rfl rfl rfl rfl ?_
                    refine mv rfl rfl rfl rfl rfl ?_
                    refine sp rfl (OpT.buildSlice (elems := ([q] : List Int).map (cI .i64)) rfl (dl rfl rfl) Tryd.underlying40 i3 (by decide) rfl (all1 rfl) rfl rfl rfl (lenAll rfl) (by decide) ?_)
                    refine mv rfl rfl rfl rfl rfl ?_
                    refine mv rfl rfl rfl rfl rfl ?_
                    refine sp rfl (OpT.thenTurn (OpT.build (l := [.int .u8 (5 : Int), .int .u64 (Arr4.mk 0 0 0 0).a0, .int .u64 (Arr4.mk 0 0 0 0).a1, .int .u64 (Arr4.mk 0 0 0 0).a2, .int .u64 (Arr4.mk 0 0 0 0).a3, .sl true 1 ([q].map (cI .i64)), .int .i64 v.1, .int .i64 v.2.1, .str (⟨#[]⟩ : ByteArray)]) rfl (dl rfl rfl) (built_struct (pl := [(0, 1), (1, 4), (5, 1), (6, 1), (7, 1), (8, 1)]) Tryd.underlying42 i42 rfl) (all1 rfl) rfl rfl rfl) (Turn.weakSlotP 96 (l := [.int .u8 (5 : Int), .int .u64 (Arr4.mk 0 0 0 0).a0, .int .u64 (Arr4.mk 0 0 0 0).a1, .int .u64 (Arr4.mk 0 0 0 0).a2, .int .u64 (Arr4.mk 0 0 0 0).a3, .sl true 1 ([q].map (cI .i64)), .int .i64 v.1, .int .i64 v.2.1, .str (⟨#[]⟩ : ByteArray)]) (l' := [.int .u8 (5 : Int), .int .u64 (Arr4.mk 0 0 0 0).a0, .int .u64 (Arr4.mk 0 0 0 0).a1, .int .u64 (Arr4.mk 0 0 0 0).a2, .int .u64 (Arr4.mk 0 0 0 0).a3, .sl false 1 ([q].map (cI .i64)), .int .i64 v.1, .int .i64 v.2.1, .str (⟨#[]⟩ : ByteArray)]) (.cons (.same _) (.cons (.same _) (.cons (.same _) (.cons (.same _) (.cons (.same _) (.cons (.full _ _ _) (.cons (.same _) (.cons (.same _) (.cons (.same _) (.refl _))))))))))) ?_)
                    obtain ⟨aa, av, h⟩ := bind_some h
                    refine sp rfl (OpT.callG (is := [0, 1]) (ph := []) rfl (dl rfl rfl) Tryd.func65 rfl rfl (Args.cons rfl (Args.cons rfl Args.nil)) (r4r_put_T K (bx0 := bx0) (wx0c2 := (an 0)) av) (.cons rfl rfl (.cons rfl rfl (.nil))) (fun _ => rfl) (fun aw => ?_))
                    refine nm (.c (.c (.n))) ?_
                    refine asg rfl rfl rfl rfl rfl ?_
                    refine TL'.nil (inBlock_normal (tN ?_))
                    refine TL.by_turn ?_ (ih aa.1 aa.2.s aa.2.at_ aa.2.deep aa.2.e aa.2.where_ aa.2.nodes (aw 0) h)
                    exact Turn.rp (.cons rfl (.cons rfl (.nil _))) (.c .z (.c .z (.n _)))
                  · refine T.condF rfl aj ?_
                    refine T.skip (inBlock_normal (tN ?_))
                    refine TL.by_turn ?_ (ih q v.2.2.s v.2.2.at_ v.2.2.deep v.2.2.e v.2.2.where_ v.2.2.nodes (an 0) h)
                    exact Turn.rp (.cons rfl (.cons rfl (.nil _))) (.c .z (.c .z (.n _)))
                · refine T.condF rfl ai ?_
                  refine T.by_turn ?_ (r4r_item_j1_T K rec_r4r_alternative hrec_r4r_alternative bx0 q b a j m p w (g 0) h)
                  exact Turn.rp (.cons rfl (.nil _)) (.c .z (.c .z (.n _)))
              · refine DG.off f rfl rfl rfl rfl rfl rfl ?_
                refine DG.off f rfl rfl rfl rfl rfl rfl ?_
                refine DG.off f rfl rfl rfl rfl rfl rfl ?_
                refine DG.off f rfl rfl rfl rfl rfl rfl ?_
                refine DG.off f rfl rfl rfl rfl rfl rfl ?_
                refine DG.off f rfl rfl rfl rfl rfl rfl ?_
                refine DG.off f rfl rfl rfl rfl rfl rfl ?_
                refine DG.off f rfl rfl rfl rfl rfl rfl ?_
                refine DG.off f rfl rfl rfl rfl rfl rfl ?_
                refine DG.off f rfl rfl rfl rfl rfl rfl ?_
                refine DG.off f rfl rfl rfl rfl rfl rfl ?_
                refine DG.step (c := ⟨some 80, .bool false, [(68, .bool (decide ((wI (a + (1 : Int))) < ((b).size : Int))))], [], []⟩) (fun t hm => One.step rfl (.free rfl) (OpT.pickF rfl (dl rfl rfl) hm.s0 f rfl rfl)) (Ct.mo rfl rfl) ?_
                refine DG.step (c := ⟨some 52, .bool false, [(80, .bool false)], [], []⟩) (fun t hm => One.step rfl (.free rfl) (OpT.assign rfl (dl rfl rfl) hm.s0 rfl)) (Ct.mo rfl rfl) ?_
                refine DG.fin (s1 := ⟨[(0, .ptr bx0 0), (3, .int .i64 q), (52, .bool false), (56, .ptr bx0 0), (57, .ptr bx0 0), (58, .ptr bx0 (0 + 1)), (59, .int .i64 a), (60, .int .i64 (wI (a + (1 : Int)))), (61, .ptr bx0 0), (62, .ptr bx0 0), (63, .ptr bx0 (0 + 0)), (64, .str b), (65, .int .i64 ((b).size : Int)), (66, .bool (decide ((wI (a + (1 : Int))) < ((b).size : Int)))), (69, .tup []), (70, .tup []), (71, .tup []), (72, .tup []), (73, .tup []), (74, .tup []), (75, .tup []), (76, .tup []), (77, .tup []), (78, .tup []), (79, .tup [])], [(o88 bx0 b a (g 0) j m p), .arrA (g 0) 42 9 ((w).map c_aNd)]⟩) (ms := [0, 1, 3, 7, 15, 31, 63, 127, 7, 263, 775, 1799, 3847, 8191, 16383, 32767, 65535, 131071, 262143, 524287, 65535, 1114111, 3211263, 7405567, 15794175, 33554431, 67108863, 134217727, 268435455]) TrydMixed rfl (by kernel_rfl) (by kernel_rfl) (by kernel_rfl) (.cons rfl (.cons rfl (.cons rfl (.cons rfl (.cons rfl (.cons rfl (.cons rfl (.cons rfl (.cons rfl (.cons rfl (.cons rfl (.cons rfl (.cons rfl (.cons rfl (.cons rfl (.cons rfl (.cons rfl (.cons rfl (.cons rfl (.cons rfl (.cons rfl (.cons rfl (.cons rfl (.cons rfl (.cons rfl (.nil _)))))))))))))))))))))))))) rfl (fun u hu => (tN (T.by_turn hu ?_)))
                refine T.condF rfl rfl ?_
                refine T.by_turn ?_ (r4r_item_j1_T K rec_r4r_alternative hrec_r4r_alternative bx0 q b a j m p w (g 0) h)
                exact Turn.rp (.cons rfl (.nil _)) (.c .z (.c .z (.n _)))
            · refine DG.off d rfl rfl rfl rfl rfl rfl ?_
              refine DG.off d rfl rfl rfl rfl rfl rfl ?_
              refine DG.off d rfl rfl rfl rfl rfl rfl ?_
              refine DG.off d rfl rfl rfl rfl rfl rfl ?_
              refine DG.off d rfl rfl rfl rfl rfl rfl ?_
              refine DG.off d rfl rfl rfl rfl rfl rfl ?_
              refine DG.off d rfl rfl rfl rfl rfl rfl ?_
              refine DG.off d rfl rfl rfl rfl rfl rfl ?_
              refine DG.off d rfl rfl rfl rfl rfl rfl ?_
              refine DG.off d rfl rfl rfl rfl rfl rfl ?_
              refine DG.off d rfl rfl rfl rfl rfl rfl ?_
              refine DG.step (c := ⟨some 67, .bool false, [(55, .bool ((bt b a) == (123 : Int)))], [], []⟩) (fun t hm => One.step rfl (.free rfl) (OpT.pickF rfl (dl rfl rfl) hm.s0 d rfl rfl)) (Ct.mo rfl rfl) ?_
              refine DG.mv rfl rfl rfl rfl rfl rfl ?_
              refine DG.off rfl rfl rfl rfl rfl rfl rfl ?_
              refine DG.off rfl rfl rfl rfl rfl rfl rfl ?_
              refine DG.off rfl rfl rfl rfl rfl rfl rfl ?_
              refine DG.off rfl rfl rfl rfl rfl rfl rfl ?_
              refine DG.off rfl rfl rfl rfl rfl rfl rfl ?_
              refine DG.off rfl rfl rfl rfl rfl rfl rfl ?_
              refine DG.off rfl rfl rfl rfl rfl rfl rfl ?_
              refine DG.off rfl rfl rfl rfl rfl rfl rfl ?_
              refine DG.off rfl rfl rfl rfl rfl rfl rfl ?_
              refine DG.off rfl rfl rfl rfl rfl rfl rfl ?_
              refine DG.off rfl rfl rfl rfl rfl rfl rfl ?_
              refine DG.step (c := ⟨some 80, .bool false, [(68, .bool false)], [], []⟩) (fun t hm => One.step rfl (.free rfl) (OpT.pickF rfl (dl rfl rfl) hm.s0 rfl rfl rfl)) (Ct.mo rfl rfl) ?_
              refine DG.step (c := ⟨some 52, .bool false, [(80, .bool false)], [], []⟩) (fun t hm => One.step rfl (.free rfl) (OpT.assign rfl (dl rfl rfl) hm.s0 rfl)) (Ct.mo rfl rfl) ?_
              refine DG.fin (s1 := ⟨[(0, .ptr bx0 0), (3, .int .i64 q), (52, .bool false), (56, .tup []), (57, .tup []), (58, .tup []), (59, .tup []), (60, .tup []), (61, .tup []), (62, .tup []), (63, .tup []), (64, .tup []), (65, .tup []), (66, .tup []), (69, .tup []), (70, .tup []), (71, .tup []), (72, .tup []), (73, .tup []), (74, .tup []), (75, .tup []), (76, .tup []), (77, .tup []), (78, .tup []), (79, .tup [])], [(o88 bx0 b a (g 0) j m p), .arrA (g 0) 42 9 ((w).map c_aNd)]⟩) (ms := [0, 1, 3, 7, 15, 31, 63, 127, 7, 263, 775, 1799, 3847, 8191, 16383, 32767, 65535, 131071, 262143, 524287, 65535, 1114111, 3211263, 7405567, 15794175, 33554431, 67108863, 134217727, 268435455]) TrydMixed rfl (by kernel_rfl) (by kernel_rfl) (by kernel_rfl) (.cons rfl (.cons rfl (.cons rfl (.cons rfl (.cons rfl (.cons rfl (.cons rfl (.cons rfl (.cons rfl (.cons rfl (.cons rfl (.cons rfl (.cons rfl (.cons rfl (.cons rfl (.cons rfl (.cons rfl (.cons rfl (.cons rfl (.cons rfl (.cons rfl (.cons rfl (.cons rfl (.cons rfl (.cons rfl (.nil _)))))))))))))))))))))))))) rfl (fun u hu => (tN (T.by_turn hu ?_)))
              refine T.condF rfl rfl ?_
              refine T.by_turn ?_ (r4r_item_j1_T K rec_r4r_alternative hrec_r4r_alternative bx0 q b a j m p w (g 0) h)
              exact Turn.rp (.cons rfl (.nil _)) (.c .z (.c .z (.n _)))
    · refine T.condF rfl ac ?_
      refine T.exit (thenS_exit (thenS_exit (inBlock_exit (tN ?_))))
      refine T.seq ?_
      refine T.rL ?_
      refine mv rfl rfl rfl rfl rfl ?_
      refine asg rfl rfl rfl rfl rfl ?_
      refine TL'.nil (tN ?_)
      refine T.ret ?_
      exact Fin.doneK (.cons _ _ _ _ (.tmp 2 _ rfl) .nil) (.cons 0 rfl (.cons 0 rfl (.nil _))) (by cases h; exact ⟨gl [g 0], rfl, rfl⟩)
theorem r4r_item_T (K : Nat) (rec_r4r_alternative : r4r → Option (Int × r4r)) (hrec_r4r_alternative : r4r_alternative_S rec_r4r_alternative) {x0 : r4r} {bx0 : Nat} {wx0c2 : Value} {r : Int × r4r} (h : r4r_item K rec_r4r_alternative x0 = some r) : CallG Tryd.prog 82 [.ptr bx0 0] [(o88 bx0 x0.s x0.at_ wx0c2 x0.deep x0.e x0.where_), .arrA wx0c2 42 9 (x0.nodes.map c_aNd)] (fun γ => (.int .i64 r.1)) (fun γ => [(o88 bx0 r.2.s r.2.at_ (γ 0) r.2.deep r.2.e r.2.where_), .arrA (γ 0) 42 9 (r.2.nodes.map c_aNd)]) := by
 refine CallT.intro Tryd.func82 rfl (nb rfl) ?_
 show T Tryd.prog 99 (Code.at [] (codeOf Tryd.f82)) ⟨paramSlots 0 [.ptr bx0 0], [(o88 bx0 x0.s x0.at_ wx0c2 x0.deep x0.e x0.where_), .arrA wx0c2 42 9 (x0.nodes.map c_aNd)]⟩ (r4r_item_q bx0 r)
 unfold r4r_item at h
 refine T.seq (T.rL ?_)
 refine aw rfl ?_
 refine TL'.nil (tN (T.seq (T.rL ?_)))
 refine mw rfl ?_
 obtain ⟨a, b, h⟩ := bind_some h
 refine sp rfl (OpT.callG (is := [0, 1]) (ph := []) rfl (dk rfl) Tryd.func90 rfl rfl (Args.cons rfl Args.nil) (r4r_atom_T K rec_r4r_alternative hrec_r4r_alternative (bx0 := bx0) (wx0c2 := wx0c2) b) (.cons rfl rfl (.cons rfl rfl (.nil))) (fun _ => rfl) (fun d => ?_))
 refine nm (.c (.c (.n))) ?_
 refine aw rfl ?_
 refine TL'.nil (tN ?_)
 refine T.seq ?_
 refine T.block ?_
 refine T.loop ?_
 refine TL.by_turn ?_ (r4r_item_l0_T K rec_r4r_alternative hrec_r4r_alternative bx0 K a.1 a.2.s a.2.at_ a.2.deep a.2.e a.2.where_ a.2.nodes (d 0) h)
 exact Turn.rp (.cons rfl (.cons rfl (.nil _))) (.c .z (.c .z (.n _)))
abbrev r4r_row_q (bx0 : Nat) (r : Int × r4r) : Exit → St → Prop := retS Tryd.prog Tryd.f64 (fun y t => ∃ γ : Nat → Value, y = (.int .i64 r.1) ∧ t = [(o88 bx0 r.2.s r.2.at_ (γ 0) r.2.deep r.2.e r.2.where_), .arrA (γ 0) 42 9 (r.2.nodes.map c_aNd)])
abbrev r4r_row_qs111 (bx0 : Nat) (r : Int × r4r) : Exit → St → Prop := thenS (fun s' => T Tryd.prog 57 (Code.at [1, 1, 1] (codeOf Tryd.f64)) s' ((r4r_row_q bx0 r))) ((r4r_row_q bx0 r))
abbrev r4r_row_qb0x111 (bx0 : Nat) (r : Int × r4r) : Exit → St → Prop := inBlockS 0 ((r4r_row_qs111 bx0 r))
abbrev r4r_row_ql1100 (bx0 : Nat) (r : Int × r4r) : Exit → St → Prop := thenS (fun s' => TL Tryd.prog 57 (Code.at [1, 1, 0, 0, 0] (codeOf Tryd.f64)) s' ((r4r_row_qb0x111 bx0 r))) ((r4r_row_qb0x111 bx0 r))
abbrev r4r_row_qs110001 (bx0 : Nat) (r : Int × r4r) : Exit → St → Prop := thenS (fun s' => T Tryd.prog 57 (Code.at [1, 1, 0, 0, 0, 1] (codeOf Tryd.f64)) s' ((r4r_row_ql1100 bx0 r))) ((r4r_row_ql1100 bx0 r))
theorem r4r_row_j1_T {r : Int × r4r} (K : Nat) (rec_r4r_alternative : r4r → Option (Int × r4r)) (hrec_r4r_alternative : r4r_alternative_S rec_r4r_alternative) (bx0 : Nat) (p : ByteArray) (q : Int) (s : Int) (u : Int) (w : Int) (y : List aNd) (a : List Int) (b : Value) (d : Value) (h : r4r_row_j1 K rec_r4r_alternative p q s u w y a = some r) : T Tryd.prog 57 (Code.at [1, 1, 0, 0, 0, 0, 1, 1] (codeOf Tryd.f64)) ⟨[(0, .ptr bx0 0), (3, .c (.ex d))], [(o88 bx0 p q b s u w), .arrA b 42 9 (y.map c_aNd), .arrA d 3 1 (a.map (cI .i64))]⟩ (r4r_row_qs110001 bx0 r) := by
 unfold r4r_row_j1 at h
 refine T.exit (thenS_exit (thenS_exit (inBlock_exit (tN ?_))))
 refine T.seq ?_
 refine T.seq (T.rL ?_)
 refine mw rfl ?_
 refine sp rfl (OpT.nilCheck rfl (dk rfl) rfl rfl ?_)
 refine sp rfl (OpT.fP rfl (dk rfl) ul88 rfl i35 (by decide) rfl ?_)
 refine sp rfl (OpT.lB (i := 0) rfl (dk rfl) ul35 rfl rfl rfl rfl ?_)
 refine sp rfl (OpT.int2 rfl rfl (dk rfl) rfl rfl ?_)
 refine TL'.nil (tN ?_)
 rcases bif_some h with ⟨g, h⟩ | ⟨g, h⟩
 refine T.condT rfl g ?_
 refine T.seq (T.rL ?_)
 cases h
 refine T.condF rfl g ?_
 refine T.skip (tN ?_)
 refine T.seq ?_
 refine T.seq (T.rL ?_)
 refine mw rfl ?_
 refine sp rfl (OpT.lenAM (i := 2) (xs := a) (f := (cI .i64)) rfl (dk rfl) ul40 rfl rfl ?_)
 refine sp rfl (OpT.int2 rfl rfl (dk rfl) rfl rfl ?_)
 refine TL'.nil (tN ?_)
 rcases bif_some h with ⟨j, h⟩ | ⟨j, h⟩
 refine T.condT rfl j ?_
 refine T.seq (T.rL ?_)
 refine mw rfl ?_
 refine sp rfl (OpT.thenTurn (OpT.build (l := [.int .u8 (1 : Int), .int .u64 (Arr4.mk 0 0 0 0).a0, .int .u64 (Arr4.mk 0 0 0 0).a1, .int .u64 (Arr4.mk 0 0 0 0).a2, .int .u64 (Arr4.mk 0 0 0 0).a3, .ex (.slice none 0 0), .int .i64 (0 : Int), .int .i64 (0 : Int), .str (⟨#[]⟩ : ByteArray)]) rfl (dk rfl) (built_struct (pl := [(0, 1), (1, 4), (5, 1), (6, 1), (7, 1), (8, 1)]) ul42 i42 rfl) (all1 rfl) rfl rfl rfl) (Turn.weakSlotP 45 (l := [.int .u8 (1 : Int), .int .u64 (Arr4.mk 0 0 0 0).a0, .int .u64 (Arr4.mk 0 0 0 0).a1, .int .u64 (Arr4.mk 0 0 0 0).a2, .int .u64 (Arr4.mk 0 0 0 0).a3, .ex (.slice none 0 0), .int .i64 (0 : Int), .int .i64 (0 : Int), .str (⟨#[]⟩ : ByteArray)]) (l' := [.int .u8 (1 : Int), .int .u64 (Arr4.mk 0 0 0 0).a0, .int .u64 (Arr4.mk 0 0 0 0).a1, .int .u64 (Arr4.mk 0 0 0 0).a2, .int .u64 (Arr4.mk 0 0 0 0).a3, .sl false 1 (([] : List Int).map (cI .i64)), .int .i64 (0 : Int), .int .i64 (0 : Int), .str (⟨#[]⟩ : ByteArray)]) (.cons (.same _) (.cons (.same _) (.cons (.same _) (.cons (.same _) (.cons (.same _) (.cons (.nil _ _) (.cons (.same _) (.cons (.same _) (.cons (.same _) (.refl _))))))))))) ?_)
 obtain ⟨ag, z, h⟩ := bind_some h
 refine sp rfl (OpT.callG (is := [0, 1]) (ph := []) rfl (dk rfl) Tryd.func65 rfl rfl (Args.cons rfl (Args.cons rfl Args.nil)) (r4r_put_T K (bx0 := bx0) (wx0c2 := b) z) (.cons rfl rfl (.cons rfl rfl (.nil))) (fun _ => rfl) (fun aa => ?_))
 refine nm (.c (.c (.c (.n)))) ?_
 refine aw rfl ?_
 refine TL'.nil (tN ?_)
 refine T.ret (thenS_ret ?_)
 exact Fin.doneK (.cons _ _ _ _ (.tmp 2 _ rfl) .nil) (.cons 0 rfl (.cons 0 rfl (.nil _))) (by cases h; exact ⟨gl [aa 0], rfl, rfl⟩)
 refine T.condF rfl j ?_
 refine T.skip (tN ?_)
 refine T.seq ?_
 refine T.seq (T.rL ?_)
 refine mw rfl ?_
 refine sp rfl (OpT.lenAM (i := 2) (xs := a) (f := (cI .i64)) rfl (dk rfl) ul40 rfl rfl ?_)
 refine sp rfl (OpT.int2 rfl rfl (dk rfl) rfl rfl ?_)
 refine TL'.nil (tN ?_)
 rcases bif_some h with ⟨m, h⟩ | ⟨m, h⟩
 refine T.condT rfl m ?_
 refine T.seq (T.rL ?_)
 refine mw rfl ?_
 refine TL'.turn (Turn.view 50 2 rfl rfl) ?_
 obtain ⟨ab, ac, h⟩ := bind_some h
 refine sp rfl (OpT.indexSlM (xs := a) (f := (cI .i64)) (v := ab) rfl (dk rfl) ul40 i3 rfl rfl ac ?_)
 refine sp rfl (OpT.loadRef rfl (dk rfl) ul3 rfl rfl rfl ?_)
 refine aw rfl ?_
 refine TL'.nil (tN ?_)
 refine T.ret (thenS_ret ?_)
 exact Fin.doneK (.cons _ _ _ _ (.tmp 2 _ rfl) .nil) (.cons 0 rfl (.cons 0 rfl (.nil _))) (by cases h; exact ⟨gl [b], rfl, rfl⟩)
 refine T.condF rfl m ?_
 refine T.skip (tN ?_)
 refine T.seq (T.rL ?_)
 refine mw rfl ?_
 refine mw rfl ?_
 refine sp rfl (OpT.thenTurn (OpT.build (l := [.int .u8 (3 : Int), .int .u64 (Arr4.mk 0 0 0 0).a0, .int .u64 (Arr4.mk 0 0 0 0).a1, .int .u64 (Arr4.mk 0 0 0 0).a2, .int .u64 (Arr4.mk 0 0 0 0).a3, .ex d, .int .i64 (0 : Int), .int .i64 (0 : Int), .str (⟨#[]⟩ : ByteArray)]) rfl (dk rfl) (built_struct (pl := [(0, 1), (1, 4), (5, 1), (6, 1), (7, 1), (8, 1)]) ul42 i42 rfl) (all1 rfl) rfl rfl rfl) (Turn.weakSlotP 55 (l := [.int .u8 (3 : Int), .int .u64 (Arr4.mk 0 0 0 0).a0, .int .u64 (Arr4.mk 0 0 0 0).a1, .int .u64 (Arr4.mk 0 0 0 0).a2, .int .u64 (Arr4.mk 0 0 0 0).a3, .ex d, .int .i64 (0 : Int), .int .i64 (0 : Int), .str (⟨#[]⟩ : ByteArray)]) (l' := [.int .u8 (3 : Int), .int .u64 (Arr4.mk 0 0 0 0).a0, .int .u64 (Arr4.mk 0 0 0 0).a1, .int .u64 (Arr4.mk 0 0 0 0).a2, .int .u64 (Arr4.mk 0 0 0 0).a3, .sl false 1 (a.map (cI .i64)), .int .i64 (0 : Int), .int .i64 (0 : Int), .str (⟨#[]⟩ : ByteArray)]) (.cons (.same _) (.cons (.same _) (.cons (.same _) (.cons (.same _) (.cons (.same _) (.cons (.view 2 rfl) (.cons (.same _) (.cons (.same _) (.cons (.same _) (.refl _))))))))))) ?_)
 obtain ⟨ai, ad, h⟩ := bind_some h
 refine sp rfl (OpT.callG (is := [0, 1]) (ph := []) rfl (dk rfl) Tryd.func65 rfl rfl (Args.cons rfl (Args.cons rfl Args.nil)) (r4r_put_T K (bx0 := bx0) (wx0c2 := b) ad) (.cons rfl rfl (.cons rfl rfl (.nil))) (fun _ => rfl) (fun af => ?_))
 refine nm (.c (.c (.c (.n)))) ?_
 refine aw rfl ?_
 refine TL'.nil (tN ?_)
 refine T.ret ?_
 exact Fin.doneK (.cons _ _ _ _ (.tmp 2 _ rfl) .nil) (.cons 0 rfl (.cons 0 rfl (.nil _))) (by cases h; exact ⟨gl [af 0], rfl, rfl⟩)
theorem r4r_row_l0_T {r : Int × r4r} (K : Nat) (rec_r4r_alternative : r4r → Option (Int × r4r)) (hrec_r4r_alternative : r4r_alternative_S rec_r4r_alternative) (bx0 : Nat) : ∀ (k : Nat), ∀ (b : ByteArray) (d : Int) (p : Int) (q : Int) (v : Int) (y : List aNd) (aa : List Int) (ac : Value) (w : Value), r4r_row_l0 K rec_r4r_alternative k b d p q v y aa = some r → TL Tryd.prog 57 (Code.at [1, 1, 0, 0, 0] (codeOf Tryd.f64)) ⟨[(0, .ptr bx0 0), (3, .c (.ex w))], [(o88 bx0 b d ac p q v), .arrA ac 42 9 (y.map c_aNd), .arrA w 3 1 (aa.map (cI .i64))]⟩ (r4r_row_qb0x111 bx0 r) := by
  intro k
  induction k with
  | zero =>
    intro b d p q v y aa ac w h
    cases (show (none : Option (Int × r4r)) = some r from h)
  | succ k ih =>
    intro b d p q v y aa ac w h
    rw [r4r_row_l0] at h
    refine TL.round ?_
    refine T.seq ?_
    refine T.seq ?_
    refine DGG.start ?_
    refine DGG.step (c := fun a => ⟨some 4, .ptr bx0 0, [(0, .ptr bx0 0)], [], []⟩) [] (fun _ _ _ => rfl) (fun a t hm => One.step rfl (.free rfl) (OpT.move rfl (dl rfl rfl) hm.s0 ⟨u0, rfl⟩)) (fun a => Ct.mo rfl rfl) ?_
    obtain ⟨m, ag, h⟩ := bind_some h
    refine DGG.step (c := fun a => ⟨some 5, .bool m, [(4, .ptr bx0 0)], [(1, .arrA ac 42 9 (y.map c_aNd)), (0, (o88 bx0 b d ac p q v))], [(0, (o88 bx0 b d ((a 1).1 0) p q v)), (1, .arrA ((a 1).1 0) 42 9 ((y).map c_aNd))]⟩) [1] (fun a γ' h => by simp only [h 1 (by decide)]) (fun a t hm => One.step rfl (.free rfl) (OpT.callG (is := [0, 1]) (ph := []) rfl (dl rfl rfl) Tryd.func49 rfl rfl (Args.cons hm.s0 Args.nil) (r4r_ends_T K (bx0 := bx0) (wx0c2 := ac) ag) (.cons hm.o1 rfl (.cons hm.o0 rfl (.nil))) (fun _ => rfl) (fun g => ⟨(g, 0), rfl⟩))) (fun a => Ct.mo rfl rfl) ?_
    refine DGG.step (c := fun a => ⟨some 6, .bool (!m), [(5, .bool m)], [], []⟩) [] (fun _ _ _ => rfl) (fun a t hm => One.step rfl (.free rfl) (OpT.not rfl (dl rfl rfl) hm.s0 ⟨u0, rfl⟩)) (fun a => Ct.mo rfl rfl) ?_
    refine DGG.step (c := fun a => ⟨some 7, .bool (!m), [(6, .bool (!m))], [], []⟩) [] (fun _ _ _ => rfl) (fun a t hm => One.step rfl (.free rfl) (OpT.move rfl (dl rfl rfl) hm.s0 ⟨u0, rfl⟩)) (fun a => Ct.mo rfl rfl) ?_
    rcases bif_some h with ⟨j, h⟩ | ⟨j, h⟩
    · refine DGG.step (c := fun a => ⟨some 8, .ptr bx0 0, [(0, .ptr bx0 0), (7, .bool (!m))], [], []⟩) [] (fun _ _ _ => rfl) (fun a t hm => One.step rfl (.on rfl rfl hm.s1 j) (OpT.move rfl (dl rfl rfl) hm.s0 ⟨u0, rfl⟩)) (fun a => Ct.mo rfl rfl) ?_
      refine DGG.step (c := fun a => ⟨some 9, .ptr bx0 0, [(8, .ptr bx0 0), (7, .bool (!m))], [], []⟩) [] (fun _ _ _ => rfl) (fun a t hm => One.step rfl (.on rfl rfl hm.s1 j) (OpT.nilCheck rfl (dl rfl rfl) hm.s0 rfl ⟨u0, rfl⟩)) (fun a => Ct.mo rfl rfl) ?_
      refine DGG.step (c := fun a => ⟨some 10, .ptr bx0 (0 + 0), [(9, .ptr bx0 0), (7, .bool (!m))], [], []⟩) [] (fun _ _ _ => rfl) (fun a t hm => One.step rfl (.on rfl rfl hm.s1 j) (OpT.fP rfl (dl rfl rfl) Tryd.underlying88 rfl i9 (by decide) hm.s0 ⟨u0, rfl⟩)) (fun a => Ct.mo rfl rfl) ?_
      refine DGG.step (c := fun a => ⟨some 11, .str b, [(10, .ptr bx0 (0 + 0)), (7, .bool (!m))], [(0, (o88 bx0 b d ((a 1).1 0) p q v))], []⟩) [1] (fun a γ' h => by simp only [h 1 (by decide)]) (fun a t hm => One.step rfl (.on rfl rfl hm.s1 j) (OpT.lB (i := 0) rfl (dl rfl rfl) Tryd.underlying9 rfl hm.s0 hm.o0 rfl ⟨u0, rfl⟩)) (fun a => Ct.mo rfl rfl) ?_
      refine DGG.step (c := fun a => ⟨some 12, .ptr bx0 0, [(0, .ptr bx0 0), (7, .bool (!m))], [], []⟩) [] (fun _ _ _ => rfl) (fun a t hm => One.step rfl (.on rfl rfl hm.s1 j) (OpT.move rfl (dl rfl rfl) hm.s0 ⟨u0, rfl⟩)) (fun a => Ct.mo rfl rfl) ?_
      refine DGG.step (c := fun a => ⟨some 13, .ptr bx0 0, [(12, .ptr bx0 0), (7, .bool (!m))], [], []⟩) [] (fun _ _ _ => rfl) (fun a t hm => One.step rfl (.on rfl rfl hm.s1 j) (OpT.nilCheck rfl (dl rfl rfl) hm.s0 rfl ⟨u0, rfl⟩)) (fun a => Ct.mo rfl rfl) ?_
      refine DGG.step (c := fun a => ⟨some 14, .ptr bx0 (0 + 1), [(13, .ptr bx0 0), (7, .bool (!m))], [], []⟩) [] (fun _ _ _ => rfl) (fun a t hm => One.step rfl (.on rfl rfl hm.s1 j) (OpT.fP rfl (dl rfl rfl) Tryd.underlying88 rfl i3 (by decide) hm.s0 ⟨u0, rfl⟩)) (fun a => Ct.mo rfl rfl) ?_
      refine DGG.step (c := fun a => ⟨some 15, .int .i64 d, [(14, .ptr bx0 (0 + 1)), (7, .bool (!m))], [(0, (o88 bx0 b d ((a 1).1 0) p q v))], []⟩) [1] (fun a γ' h => by simp only [h 1 (by decide)]) (fun a t hm => One.step rfl (.on rfl rfl hm.s1 j) (OpT.lB (i := 0) rfl (dl rfl rfl) Tryd.underlying3 rfl hm.s0 hm.o0 rfl ⟨u0, rfl⟩)) (fun a => Ct.mo rfl rfl) ?_
      obtain ⟨ad, h⟩ := ck_some h
      refine DGG.step (c := fun a => ⟨some 16, .int .u8 (bt b d), [(11, .str b), (15, .int .i64 d), (7, .bool (!m))], [], []⟩) [] (fun _ _ _ => rfl) (fun a t hm => One.step rfl (.on rfl rfl hm.s2 j) (OpT.indexStr rfl (dl rfl rfl) Tryd.underlying9 hm.s0 hm.s1 ad.1 ad.2 ⟨u0, rfl⟩)) (fun a => Ct.mo rfl rfl) ?_
      refine DGG.step (c := fun a => ⟨some 17, .bool ((bt b d) != (124 : Int)), [(16, .int .u8 (bt b d)), (7, .bool (!m))], [], []⟩) [] (fun _ _ _ => rfl) (fun a t hm => One.step rfl (.on rfl rfl hm.s1 j) (OpT.int2 rfl rfl (dl rfl rfl) hm.s0 rfl ⟨u0, rfl⟩)) (fun a => Ct.mo rfl rfl) ?_
      refine DGG.step (c := fun a => ⟨some 18, .bool ((bt b d) != (124 : Int)), [(7, .bool (!m)), (17, .bool ((bt b d) != (124 : Int)))], [], []⟩) [] (fun _ _ _ => rfl) (fun a t hm => One.step rfl (.free rfl) (OpT.pickT rfl (dl rfl rfl) hm.s0 j hm.s1 ⟨u0, rfl⟩)) (fun a => Ct.mo rfl rfl) ?_
      refine DGG.step (c := fun a => ⟨some 19, .bool ((bt b d) != (124 : Int)), [(18, .bool ((bt b d) != (124 : Int)))], [], []⟩) [] (fun _ _ _ => rfl) (fun a t hm => One.step rfl (.free rfl) (OpT.move rfl (dl rfl rfl) hm.s0 ⟨u0, rfl⟩)) (fun a => Ct.mo rfl rfl) ?_
      rcases bif_some h with ⟨l, h⟩ | ⟨l, h⟩
      · refine DGG.step (c := fun a => ⟨some 20, .ptr bx0 0, [(0, .ptr bx0 0), (19, .bool ((bt b d) != (124 : Int)))], [], []⟩) [] (fun _ _ _ => rfl) (fun a t hm => One.step rfl (.on rfl rfl hm.s1 l) (OpT.move rfl (dl rfl rfl) hm.s0 ⟨u0, rfl⟩)) (fun a => Ct.mo rfl rfl) ?_
        refine DGG.step (c := fun a => ⟨some 21, .ptr bx0 0, [(20, .ptr bx0 0), (19, .bool ((bt b d) != (124 : Int)))], [], []⟩) [] (fun _ _ _ => rfl) (fun a t hm => One.step rfl (.on rfl rfl hm.s1 l) (OpT.nilCheck rfl (dl rfl rfl) hm.s0 rfl ⟨u0, rfl⟩)) (fun a => Ct.mo rfl rfl) ?_
        refine DGG.step (c := fun a => ⟨some 22, .ptr bx0 (0 + 0), [(21, .ptr bx0 0), (19, .bool ((bt b d) != (124 : Int)))], [], []⟩) [] (fun _ _ _ => rfl) (fun a t hm => One.step rfl (.on rfl rfl hm.s1 l) (OpT.fP rfl (dl rfl rfl) Tryd.underlying88 rfl i9 (by decide) hm.s0 ⟨u0, rfl⟩)) (fun a => Ct.mo rfl rfl) ?_
        refine DGG.step (c := fun a => ⟨some 23, .str b, [(22, .ptr bx0 (0 + 0)), (19, .bool ((bt b d) != (124 : Int)))], [(0, (o88 bx0 b d ((a 1).1 0) p q v))], []⟩) [1] (fun a γ' h => by simp only [h 1 (by decide)]) (fun a t hm => One.step rfl (.on rfl rfl hm.s1 l) (OpT.lB (i := 0) rfl (dl rfl rfl) Tryd.underlying9 rfl hm.s0 hm.o0 rfl ⟨u0, rfl⟩)) (fun a => Ct.mo rfl rfl) ?_
        refine DGG.step (c := fun a => ⟨some 24, .ptr bx0 0, [(0, .ptr bx0 0), (19, .bool ((bt b d) != (124 : Int)))], [], []⟩) [] (fun _ _ _ => rfl) (fun a t hm => One.step rfl (.on rfl rfl hm.s1 l) (OpT.move rfl (dl rfl rfl) hm.s0 ⟨u0, rfl⟩)) (fun a => Ct.mo rfl rfl) ?_
        refine DGG.step (c := fun a => ⟨some 25, .ptr bx0 0, [(24, .ptr bx0 0), (19, .bool ((bt b d) != (124 : Int)))], [], []⟩) [] (fun _ _ _ => rfl) (fun a t hm => One.step rfl (.on rfl rfl hm.s1 l) (OpT.nilCheck rfl (dl rfl rfl) hm.s0 rfl ⟨u0, rfl⟩)) (fun a => Ct.mo rfl rfl) ?_
        refine DGG.step (c := fun a => ⟨some 26, .ptr bx0 (0 + 1), [(25, .ptr bx0 0), (19, .bool ((bt b d) != (124 : Int)))], [], []⟩) [] (fun _ _ _ => rfl) (fun a t hm => One.step rfl (.on rfl rfl hm.s1 l) (OpT.fP rfl (dl rfl rfl) Tryd.underlying88 rfl i3 (by decide) hm.s0 ⟨u0, rfl⟩)) (fun a => Ct.mo rfl rfl) ?_
        refine DGG.step (c := fun a => ⟨some 27, .int .i64 d, [(26, .ptr bx0 (0 + 1)), (19, .bool ((bt b d) != (124 : Int)))], [(0, (o88 bx0 b d ((a 1).1 0) p q v))], []⟩) [1] (fun a γ' h => by simp only [h 1 (by decide)]) (fun a t hm => One.step rfl (.on rfl rfl hm.s1 l) (OpT.lB (i := 0) rfl (dl rfl rfl) Tryd.underlying3 rfl hm.s0 hm.o0 rfl ⟨u0, rfl⟩)) (fun a => Ct.mo rfl rfl) ?_
        refine DGG.step (c := fun a => ⟨some 28, .int .u8 (bt b d), [(23, .str b), (27, .int .i64 d), (19, .bool ((bt b d) != (124 : Int)))], [], []⟩) [] (fun _ _ _ => rfl) (fun a t hm => One.step rfl (.on rfl rfl hm.s2 l) (OpT.indexStr rfl (dl rfl rfl) Tryd.underlying9 hm.s0 hm.s1 ad.1 ad.2 ⟨u0, rfl⟩)) (fun a => Ct.mo rfl rfl) ?_
        refine DGG.step (c := fun a => ⟨some 29, .bool ((bt b d) != (41 : Int)), [(28, .int .u8 (bt b d)), (19, .bool ((bt b d) != (124 : Int)))], [], []⟩) [] (fun _ _ _ => rfl) (fun a t hm => One.step rfl (.on rfl rfl hm.s1 l) (OpT.int2 rfl rfl (dl rfl rfl) hm.s0 rfl ⟨u0, rfl⟩)) (fun a => Ct.mo rfl rfl) ?_
        refine DGG.step (c := fun a => ⟨some 30, .bool ((bt b d) != (41 : Int)), [(19, .bool ((bt b d) != (124 : Int))), (29, .bool ((bt b d) != (41 : Int)))], [], []⟩) [] (fun _ _ _ => rfl) (fun a t hm => One.step rfl (.free rfl) (OpT.pickT rfl (dl rfl rfl) hm.s0 l hm.s1 ⟨u0, rfl⟩)) (fun a => Ct.mo rfl rfl) ?_
        refine DGG.fin (s1 := fun a => ⟨[(0, .ptr bx0 0), (3, .c (.ex w)), (8, .ptr bx0 0), (9, .ptr bx0 0), (10, .ptr bx0 (0 + 0)), (11, .str b), (12, .ptr bx0 0), (13, .ptr bx0 0), (14, .ptr bx0 (0 + 1)), (15, .int .i64 d), (16, .int .u8 (bt b d)), (17, .bool ((bt b d) != (124 : Int))), (20, .ptr bx0 0), (21, .ptr bx0 0), (22, .ptr bx0 (0 + 0)), (23, .str b), (24, .ptr bx0 0), (25, .ptr bx0 0), (26, .ptr bx0 (0 + 1)), (27, .int .i64 d), (28, .int .u8 (bt b d)), (29, .bool ((bt b d) != (41 : Int))), (30, .bool ((bt b d) != (41 : Int)))], [(o88 bx0 b d ((a 1).1 0) p q v), .arrA ((a 1).1 0) 42 9 ((y).map c_aNd), .arrA w 3 1 (aa.map (cI .i64))]⟩) (ms := [0, 1, 3, 7, 15, 31, 63, 127, 15, 271, 783, 1807, 4095, 8191, 16383, 32767, 65535, 131071, 262143, 524287, 65535, 1114111, 3211263, 7405567, 16777215, 33554431, 67108863]) TrydMixed rfl (by kernel_rfl) (by kernel_rfl) (by kernel_rfl) (fun a => by kernel_rfl) (fun a => .cons rfl (.cons rfl (.cons rfl (.cons rfl (.cons rfl (.cons rfl (.cons rfl (.cons rfl (.cons rfl (.cons rfl (.cons rfl (.cons rfl (.cons rfl (.cons rfl (.cons rfl (.cons rfl (.cons rfl (.cons rfl (.cons rfl (.cons rfl (.cons rfl (.cons rfl (.cons rfl (.nil _)))))))))))))))))))))))) (fun _ => rfl) (fun a u hu => (tN (T.by_turn hu ?_)))
        rcases bif_some h with ⟨af, h⟩ | ⟨af, h⟩
        · refine T.condT rfl af ?_
          refine T.skip (tN ?_)
          refine T.block ?_
          refine T.rL ?_
          refine mv rfl rfl rfl rfl rfl ?_
          refine mv rfl rfl rfl rfl rfl ?_
          obtain ⟨ab, ai, h⟩ := bind_some h
          refine sp rfl (OpT.callG (is := [0, 1]) (ph := []) rfl (dl rfl rfl) Tryd.func82 rfl rfl (Args.cons rfl Args.nil) (r4r_item_T K rec_r4r_alternative hrec_r4r_alternative (bx0 := bx0) (wx0c2 := ((a 1).1 0)) ai) (.cons rfl rfl (.cons rfl rfl (.nil))) (fun _ => rfl) (fun aj => ?_))
          refine nm (.c (.c (.c (.n)))) ?_
          refine sp rfl (OpT.buildSlice (elems := ([ab.1] : List Int).map (cI .i64)) rfl (dl rfl rfl) Tryd.underlying40 i3 (by decide) rfl (all1 rfl) rfl rfl rfl (lenAll rfl) (by decide) ?_)
          obtain ⟨al, h⟩ := ck_some h
          refine sp rfl (OpT.appendAM (i := 2) (xs := aa) (ys := [ab.1]) (f := (cI .i64)) rfl (dl rfl rfl) Tryd.underlying40 i3 rfl rfl rfl rfl al (fun am => ?_))
          refine asg rfl rfl rfl rfl rfl ?_
          refine TL'.nil (inBlock_normal (tN ?_))
          refine TL.by_turn ?_ (ih ab.2.s ab.2.at_ ab.2.deep ab.2.e ab.2.where_ ab.2.nodes (aa ++ [ab.1]) (aj 0) am h)
          exact Turn.rp (.cons rfl (.cons rfl (.nil _))) (.c .z (.c .z (.c .z (.n _))))
        · refine T.condF rfl af ?_
          refine T.by_turn ?_ (r4r_row_j1_T K rec_r4r_alternative hrec_r4r_alternative bx0 b d p q v y aa ((a 1).1 0) w h)
          exact Turn.rp (.cons rfl (.cons rfl (.nil _))) (.c .z (.c .z (.c .z (.n _))))
      · refine DGG.off l rfl rfl rfl rfl rfl (fun _ => rfl) ?_
        refine DGG.off l rfl rfl rfl rfl rfl (fun _ => rfl) ?_
        refine DGG.off l rfl rfl rfl rfl rfl (fun _ => rfl) ?_
        refine DGG.off l rfl rfl rfl rfl rfl (fun _ => rfl) ?_
        refine DGG.off l rfl rfl rfl rfl rfl (fun _ => rfl) ?_
        refine DGG.off l rfl rfl rfl rfl rfl (fun _ => rfl) ?_
        refine DGG.off l rfl rfl rfl rfl rfl (fun _ => rfl) ?_
        refine DGG.off l rfl rfl rfl rfl rfl (fun _ => rfl) ?_
        refine DGG.off l rfl rfl rfl rfl rfl (fun _ => rfl) ?_
        refine DGG.off l rfl rfl rfl rfl rfl (fun _ => rfl) ?_
        refine DGG.step (c := fun a => ⟨some 30, .bool false, [(19, .bool ((bt b d) != (124 : Int)))], [], []⟩) [] (fun _ _ _ => rfl) (fun a t hm => One.step rfl (.free rfl) (OpT.pickF rfl (dl rfl rfl) hm.s0 l rfl ⟨u0, rfl⟩)) (fun a => Ct.mo rfl rfl) ?_
        refine DGG.fin (s1 := fun a => ⟨[(0, .ptr bx0 0), (3, .c (.ex w)), (8, .ptr bx0 0), (9, .ptr bx0 0), (10, .ptr bx0 (0 + 0)), (11, .str b), (12, .ptr bx0 0), (13, .ptr bx0 0), (14, .ptr bx0 (0 + 1)), (15, .int .i64 d), (16, .int .u8 (bt b d)), (17, .bool ((bt b d) != (124 : Int))), (20, .tup []), (21, .tup []), (22, .tup []), (23, .tup []), (24, .tup []), (25, .tup []), (26, .tup []), (27, .tup []), (28, .tup []), (29, .tup []), (30, .bool false)], [(o88 bx0 b d ((a 1).1 0) p q v), .arrA ((a 1).1 0) 42 9 ((y).map c_aNd), .arrA w 3 1 (aa.map (cI .i64))]⟩) (ms := [0, 1, 3, 7, 15, 31, 63, 127, 15, 271, 783, 1807, 4095, 8191, 16383, 32767, 65535, 131071, 262143, 524287, 65535, 1114111, 3211263, 7405567, 16777215, 33554431, 67108863]) TrydMixed rfl (by kernel_rfl) (by kernel_rfl) (by kernel_rfl) (fun a => by kernel_rfl) (fun a => .cons rfl (.cons rfl (.cons rfl (.cons rfl (.cons rfl (.cons rfl (.cons rfl (.cons rfl (.cons rfl (.cons rfl (.cons rfl (.cons rfl (.cons rfl (.cons rfl (.cons rfl (.cons rfl (.cons rfl (.cons rfl (.cons rfl (.cons rfl (.cons rfl (.cons rfl (.cons rfl (.nil _)))))))))))))))))))))))) (fun _ => rfl) (fun a u hu => (tN (T.by_turn hu ?_)))
        refine T.condF rfl rfl ?_
        refine T.by_turn ?_ (r4r_row_j1_T K rec_r4r_alternative hrec_r4r_alternative bx0 b d p q v y aa ((a 1).1 0) w h)
        exact Turn.rp (.cons rfl (.cons rfl (.nil _))) (.c .z (.c .z (.c .z (.n _))))
    · refine DGG.off j rfl rfl rfl rfl rfl (fun _ => rfl) ?_
      refine DGG.off j rfl rfl rfl rfl rfl (fun _ => rfl) ?_
      refine DGG.off j rfl rfl rfl rfl rfl (fun _ => rfl) ?_
      refine DGG.off j rfl rfl rfl rfl rfl (fun _ => rfl) ?_
      refine DGG.off j rfl rfl rfl rfl rfl (fun _ => rfl) ?_
      refine DGG.off j rfl rfl rfl rfl rfl (fun _ => rfl) ?_
      refine DGG.off j rfl rfl rfl rfl rfl (fun _ => rfl) ?_
      refine DGG.off j rfl rfl rfl rfl rfl (fun _ => rfl) ?_
      refine DGG.off j rfl rfl rfl rfl rfl (fun _ => rfl) ?_
      refine DGG.off j rfl rfl rfl rfl rfl (fun _ => rfl) ?_
      refine DGG.step (c := fun a => ⟨some 18, .bool false, [(7, .bool (!m))], [], []⟩) [] (fun _ _ _ => rfl) (fun a t hm => One.step rfl (.free rfl) (OpT.pickF rfl (dl rfl rfl) hm.s0 j rfl ⟨u0, rfl⟩)) (fun a => Ct.mo rfl rfl) ?_
      refine DGG.step (c := fun a => ⟨some 19, .bool false, [(18, .bool false)], [], []⟩) [] (fun _ _ _ => rfl) (fun a t hm => One.step rfl (.free rfl) (OpT.move rfl (dl rfl rfl) hm.s0 ⟨u0, rfl⟩)) (fun a => Ct.mo rfl rfl) ?_
      refine DGG.off rfl rfl rfl rfl rfl rfl (fun _ => rfl) ?_
      refine DGG.off rfl rfl rfl rfl rfl rfl (fun _ => rfl) ?_
      refine DGG.off rfl rfl rfl rfl rfl rfl (fun _ => rfl) ?_
      refine DGG.off rfl rfl rfl rfl rfl rfl (fun _ => rfl) ?_
      refine DGG.off rfl rfl rfl rfl rfl rfl (fun _ => rfl) ?_
      refine DGG.off rfl rfl rfl rfl rfl rfl (fun _ => rfl) ?_
      refine DGG.off rfl rfl rfl rfl rfl rfl (fun _ => rfl) ?_
      refine DGG.off rfl rfl rfl rfl rfl rfl (fun _ => rfl) ?_
      refine DGG.off rfl rfl rfl rfl rfl rfl (fun _ => rfl) ?_
      refine DGG.off rfl rfl rfl rfl rfl rfl (fun _ => rfl) ?_
      refine DGG.step (c := fun a => ⟨some 30, .bool false, [(19, .bool false)], [], []⟩) [] (fun _ _ _ => rfl) (fun a t hm => One.step rfl (.free rfl) (OpT.pickF rfl (dl rfl rfl) hm.s0 rfl rfl ⟨u0, rfl⟩)) (fun a => Ct.mo rfl rfl) ?_
      refine DGG.fin (s1 := fun a => ⟨[(0, .ptr bx0 0), (3, .c (.ex w)), (8, .tup []), (9, .tup []), (10, .tup []), (11, .tup []), (12, .tup []), (13, .tup []), (14, .tup []), (15, .tup []), (16, .tup []), (17, .tup []), (20, .tup []), (21, .tup []), (22, .tup []), (23, .tup []), (24, .tup []), (25, .tup []), (26, .tup []), (27, .tup []), (28, .tup []), (29, .tup []), (30, .bool false)], [(o88 bx0 b d ((a 1).1 0) p q v), .arrA ((a 1).1 0) 42 9 ((y).map c_aNd), .arrA w 3 1 (aa.map (cI .i64))]⟩) (ms := [0, 1, 3, 7, 15, 31, 63, 127, 15, 271, 783, 1807, 4095, 8191, 16383, 32767, 65535, 131071, 262143, 524287, 65535, 1114111, 3211263, 7405567, 16777215, 33554431, 67108863]) TrydMixed rfl (by kernel_rfl) (by kernel_rfl) (by kernel_rfl) (fun a => by kernel_rfl) (fun a => .cons rfl (.cons rfl (.cons rfl (.cons rfl (.cons rfl (.cons rfl (.cons rfl (.cons rfl (.cons rfl (.cons rfl (.cons rfl (.cons rfl (.cons rfl (.cons rfl (.cons rfl (.cons rfl (.cons rfl (.cons rfl (.cons rfl (.cons rfl (.cons rfl (.cons rfl (.cons rfl (.nil _)))))))))))))))))))))))) (fun _ => rfl) (fun a u hu => (tN (T.by_turn hu ?_)))
      refine T.condF rfl rfl ?_
      refine T.by_turn ?_ (r4r_row_j1_T K rec_r4r_alternative hrec_r4r_alternative bx0 b d p q v y aa ((a 1).1 0) w h)
      exact Turn.rp (.cons rfl (.cons rfl (.nil _))) (.c .z (.c .z (.c .z (.n _))))
theorem r4r_row_T (K : Nat) (rec_r4r_alternative : r4r → Option (Int × r4r)) (hrec_r4r_alternative : r4r_alternative_S rec_r4r_alternative) {x0 : r4r} {bx0 : Nat} {wx0c2 : Value} {r : Int × r4r} (h : r4r_row K rec_r4r_alternative x0 = some r) : CallG Tryd.prog 64 [.ptr bx0 0] [(o88 bx0 x0.s x0.at_ wx0c2 x0.deep x0.e x0.where_), .arrA wx0c2 42 9 (x0.nodes.map c_aNd)] (fun γ => (.int .i64 r.1)) (fun γ => [(o88 bx0 r.2.s r.2.at_ (γ 0) r.2.deep r.2.e r.2.where_), .arrA (γ 0) 42 9 (r.2.nodes.map c_aNd)]) := by
 refine CallT.intro Tryd.func64 rfl (nb rfl) ?_
 show T Tryd.prog 57 (Code.at [] (codeOf Tryd.f64)) ⟨paramSlots 0 [.ptr bx0 0], [(o88 bx0 x0.s x0.at_ wx0c2 x0.deep x0.e x0.where_), .arrA wx0c2 42 9 (x0.nodes.map c_aNd)]⟩ (r4r_row_q bx0 r)
 unfold r4r_row at h
 refine T.seq (T.rL ?_)
 refine aw rfl ?_
 refine TL'.nil (tN (T.seq (T.rL ?_)))
 refine aw rfl ?_
 refine TL'.nil (tN ?_)
 refine T.seq ?_
 refine T.block ?_
 refine T.loop ?_
 refine TL.by_turn (Turn.nilA 3 1) ?_
 refine TL.by_turn ?_ (r4r_row_l0_T K rec_r4r_alternative hrec_r4r_alternative bx0 K x0.s x0.at_ x0.deep x0.e x0.where_ x0.nodes [] wx0c2 (nilv 2) h)
 exact Turn.rp (.cons rfl (.cons rfl (.nil _))) (.c (.s .z) (.c (.s .z) (.c .z (.n _))))
abbrev r4r_alternative_q (bx0 : Nat) (r : Int × r4r) : Exit → St → Prop := retS Tryd.prog Tryd.f48 (fun y t => ∃ γ : Nat → Value, y = (.int .i64 r.1) ∧ t = [(o88 bx0 r.2.s r.2.at_ (γ 0) r.2.deep r.2.e r.2.where_), .arrA (γ 0) 42 9 (r.2.nodes.map c_aNd)])
abbrev r4r_alternative_qs1111 (bx0 : Nat) (r : Int × r4r) : Exit → St → Prop := thenS (fun s' => T Tryd.prog 51 (Code.at [1, 1, 1, 1] (codeOf Tryd.f48)) s' ((r4r_alternative_q bx0 r))) ((r4r_alternative_q bx0 r))
abbrev r4r_alternative_qs111 (bx0 : Nat) (r : Int × r4r) : Exit → St → Prop := thenS (fun s' => T Tryd.prog 51 (Code.at [1, 1, 1] (codeOf Tryd.f48)) s' ((r4r_alternative_q bx0 r))) ((r4r_alternative_q bx0 r))
abbrev r4r_alternative_qb0x111 (bx0 : Nat) (r : Int × r4r) : Exit → St → Prop := inBlockS 0 ((r4r_alternative_qs111 bx0 r))
abbrev r4r_alternative_ql1100 (bx0 : Nat) (r : Int × r4r) : Exit → St → Prop := thenS (fun s' => TL Tryd.prog 51 (Code.at [1, 1, 0, 0, 0] (codeOf Tryd.f48)) s' ((r4r_alternative_qb0x111 bx0 r))) ((r4r_alternative_qb0x111 bx0 r))
abbrev r4r_alternative_qs110001 (bx0 : Nat) (r : Int × r4r) : Exit → St → Prop := thenS (fun s' => T Tryd.prog 51 (Code.at [1, 1, 0, 0, 0, 1] (codeOf Tryd.f48)) s' ((r4r_alternative_ql1100 bx0 r))) ((r4r_alternative_ql1100 bx0 r))
theorem r4r_alternative_j2_T {r : Int × r4r} (K : Nat) (rec_r4r_alternative : r4r → Option (Int × r4r)) (hrec_r4r_alternative : r4r_alternative_S rec_r4r_alternative) (bx0 : Nat) (a : List Int) (d : ByteArray) (g : Int) (i : Int) (j : Int) (l : Int) (m : List aNd) (n : Value) (b : Value) (h : r4r_alternative_j2 K rec_r4r_alternative a d g i j l m = some r) : T Tryd.prog 51 (Code.at [1, 1, 1, 0, 1, 0] (codeOf Tryd.f48)) ⟨[(3, .c (.ex n))], [.arrA n 3 1 (a.map (cI .i64)), (o88 bx0 d g b i j l), .arrA b 42 9 (m.map c_aNd)]⟩ (r4r_alternative_qs1111 bx0 r) := by
 unfold r4r_alternative_j2 at h
 refine T.seq (T.rL ?_)
 refine mw rfl ?_
 refine TL'.turn (Turn.view 44 0 rfl rfl) ?_
 obtain ⟨p, q, h⟩ := bind_some h
 refine sp rfl (OpT.indexSlM (xs := a) (f := (cI .i64)) (v := p) rfl (dk rfl) ul40 i3 rfl rfl q ?_)
 refine sp rfl (OpT.loadRef rfl (dk rfl) ul3 rfl rfl rfl ?_)
 refine aw rfl ?_
 refine TL'.nil (tN ?_)
 refine T.ret (thenS_ret ?_)
 exact Fin.doneK (.cons _ _ _ _ (.tmp 2 _ rfl) .nil) (.cons 1 rfl (.cons 1 rfl (.nil _))) (by cases h; exact ⟨gl [b], rfl, rfl⟩)
theorem r4r_alternative_j1_T {r : Int × r4r} (K : Nat) (rec_r4r_alternative : r4r → Option (Int × r4r)) (hrec_r4r_alternative : r4r_alternative_S rec_r4r_alternative) (bx0 : Nat) (j : ByteArray) (m : Int) (p : Int) (q : Int) (u : Int) (v : List aNd) (b : List Int) (g : Value) (d : Value) (h : r4r_alternative_j1 K rec_r4r_alternative j m p q u v b = some r) : T Tryd.prog 51 (Code.at [1, 1, 0, 0, 0, 0, 1, 1] (codeOf Tryd.f48)) ⟨[(0, .ptr bx0 0), (3, .c (.ex d))], [(o88 bx0 j m g p q u), .arrA g 42 9 (v.map c_aNd), .arrA d 3 1 (b.map (cI .i64))]⟩ (r4r_alternative_qs110001 bx0 r) := by
 unfold r4r_alternative_j1 at h
 refine T.exit (thenS_exit (thenS_exit (inBlock_exit (tN ?_))))
 refine T.seq ?_
 refine T.seq (T.rL ?_)
 refine mw rfl ?_
 refine sp rfl (OpT.lenAM (i := 2) (xs := b) (f := (cI .i64)) rfl (dk rfl) ul40 rfl rfl ?_)
 refine sp rfl (OpT.int2 rfl rfl (dk rfl) rfl rfl ?_)
 refine mw rfl ?_
 rcases bif_some h with ⟨a, h⟩ | ⟨a, h⟩
 refine TL'.pU (.off _ _ _ _ rfl rfl rfl a) (dk rfl) ?_
 refine TL'.pU (.off _ _ _ _ rfl rfl rfl a) (dk rfl) ?_
 refine TL'.pU (.off _ _ _ _ rfl rfl rfl a) (dk rfl) ?_
 refine TL'.pU (.off _ _ _ _ rfl rfl rfl a) (dk rfl) ?_
 refine TL'.pU (.off _ _ _ _ rfl rfl rfl a) (dk rfl) ?_
 refine sp rfl (OpT.pickT rfl (dk rfl) rfl a rfl ?_)
 refine TL'.nil (tN ?_)
 refine T.condT rfl rfl ?_
 refine T.by_turn ?_ (r4r_alternative_j2_T K rec_r4r_alternative hrec_r4r_alternative bx0 b j m p q u v d g h)
 exact Turn.rp (.cons rfl (.nil _)) (.c (.s (.s .z)) (.c .z (.c .z (.n _))))
 refine TL'.step (.on rfl rfl rfl a) (OpT.move rfl (dk rfl) rfl ?_)
 refine TL'.step (.on rfl rfl rfl a) (OpT.nilCheck rfl (dk rfl) rfl rfl ?_)
 refine TL'.step (.on rfl rfl rfl a) (OpT.fP rfl (dk rfl) ul88 rfl i35 (by decide) rfl ?_)
 refine TL'.step (.on rfl rfl rfl a) (OpT.lB (i := 0) rfl (dk rfl) ul35 rfl rfl rfl rfl ?_)
 refine TL'.step (.on rfl rfl rfl a) (OpT.int2 rfl rfl (dk rfl) rfl rfl ?_)
 refine sp rfl (OpT.pickF rfl (dk rfl) rfl a rfl ?_)
 refine TL'.nil (tN ?_)
 rcases bif_some h with ⟨w, h⟩ | ⟨w, h⟩
 refine T.condT rfl w ?_
 refine T.by_turn ?_ (r4r_alternative_j2_T K rec_r4r_alternative hrec_r4r_alternative bx0 b j m p q u v d g h)
 exact Turn.rp (.cons rfl (.nil _)) (.c (.s (.s .z)) (.c .z (.c .z (.n _))))
 refine T.condF rfl w ?_
 refine T.skip (tN ?_)
 refine T.seq (T.rL ?_)
 refine mw rfl ?_
 refine mw rfl ?_
 refine sp rfl (OpT.thenTurn (OpT.build (l := [.int .u8 (4 : Int), .int .u64 (Arr4.mk 0 0 0 0).a0, .int .u64 (Arr4.mk 0 0 0 0).a1, .int .u64 (Arr4.mk 0 0 0 0).a2, .int .u64 (Arr4.mk 0 0 0 0).a3, .ex d, .int .i64 (0 : Int), .int .i64 (0 : Int), .str (⟨#[]⟩ : ByteArray)]) rfl (dk rfl) (built_struct (pl := [(0, 1), (1, 4), (5, 1), (6, 1), (7, 1), (8, 1)]) ul42 i42 rfl) (all1 rfl) rfl rfl rfl) (Turn.weakSlotP 49 (l := [.int .u8 (4 : Int), .int .u64 (Arr4.mk 0 0 0 0).a0, .int .u64 (Arr4.mk 0 0 0 0).a1, .int .u64 (Arr4.mk 0 0 0 0).a2, .int .u64 (Arr4.mk 0 0 0 0).a3, .ex d, .int .i64 (0 : Int), .int .i64 (0 : Int), .str (⟨#[]⟩ : ByteArray)]) (l' := [.int .u8 (4 : Int), .int .u64 (Arr4.mk 0 0 0 0).a0, .int .u64 (Arr4.mk 0 0 0 0).a1, .int .u64 (Arr4.mk 0 0 0 0).a2, .int .u64 (Arr4.mk 0 0 0 0).a3, .sl false 1 (b.map (cI .i64)), .int .i64 (0 : Int), .int .i64 (0 : Int), .str (⟨#[]⟩ : ByteArray)]) (.cons (.same _) (.cons (.same _) (.cons (.same _) (.cons (.same _) (.cons (.same _) (.cons (.view 2 rfl) (.cons (.same _) (.cons (.same _) (.cons (.same _) (.refl _))))))))))) ?_)
 obtain ⟨ab, y, h⟩ := bind_some h
 refine sp rfl (OpT.callG (is := [0, 1]) (ph := []) rfl (dk rfl) Tryd.func65 rfl rfl (Args.cons rfl (Args.cons rfl Args.nil)) (r4r_put_T K (bx0 := bx0) (wx0c2 := g) y) (.cons rfl rfl (.cons rfl rfl (.nil))) (fun _ => rfl) (fun aa => ?_))
 refine nm (.c (.c (.c (.n)))) ?_
 refine aw rfl ?_
 refine TL'.nil (tN ?_)
 refine T.ret ?_
 exact Fin.doneK (.cons _ _ _ _ (.tmp 2 _ rfl) .nil) (.cons 0 rfl (.cons 0 rfl (.nil _))) (by cases h; exact ⟨gl [aa 0], rfl, rfl⟩)
theorem r4r_alternative_l0_T {r : Int × r4r} (K : Nat) (rec_r4r_alternative : r4r → Option (Int × r4r)) (hrec_r4r_alternative : r4r_alternative_S rec_r4r_alternative) (bx0 : Nat) : ∀ (k : Nat), ∀ (b : ByteArray) (j : Int) (p : Int) (q : Int) (v : Int) (w : List aNd) (y : List Int) (ac : Value) (aa : Value), r4r_alternative_l0 K rec_r4r_alternative k b j p q v w y = some r → TL Tryd.prog 51 (Code.at [1, 1, 0, 0, 0] (codeOf Tryd.f48)) ⟨[(0, .ptr bx0 0), (3, .c (.ex aa))], [(o88 bx0 b j ac p q v), .arrA ac 42 9 (w.map c_aNd), .arrA aa 3 1 (y.map (cI .i64))]⟩ (r4r_alternative_qb0x111 bx0 r) := by
  intro k
  induction k with
  | zero =>
    intro b j p q v w y ac aa h
    cases (show (none : Option (Int × r4r)) = some r from h)
  | succ k ih =>
    intro b j p q v w y ac aa h
    rw [r4r_alternative_l0] at h
    refine TL.round ?_
    refine T.seq ?_
    refine T.seq ?_
    refine DGG.start ?_
    refine DGG.step (c := fun a => ⟨some 7, .ptr bx0 0, [(0, .ptr bx0 0)], [], []⟩) [] (fun _ _ _ => rfl) (fun a t hm => One.step rfl (.free rfl) (OpT.move rfl (dl rfl rfl) hm.s0 ⟨u0, rfl⟩)) (fun a => Ct.mo rfl rfl) ?_
    obtain ⟨m, ag, h⟩ := bind_some h
    refine DGG.step (c := fun a => ⟨some 8, .bool m, [(7, .ptr bx0 0)], [(1, .arrA ac 42 9 (w.map c_aNd)), (0, (o88 bx0 b j ac p q v))], [(0, (o88 bx0 b j ((a 1).1 0) p q v)), (1, .arrA ((a 1).1 0) 42 9 ((w).map c_aNd))]⟩) [1] (fun a γ' h => by simp only [h 1 (by decide)]) (fun a t hm => One.step rfl (.free rfl) (OpT.callG (is := [0, 1]) (ph := []) rfl (dl rfl rfl) Tryd.func49 rfl rfl (Args.cons hm.s0 Args.nil) (r4r_ends_T K (bx0 := bx0) (wx0c2 := ac) ag) (.cons hm.o1 rfl (.cons hm.o0 rfl (.nil))) (fun _ => rfl) (fun g => ⟨(g, 0), rfl⟩))) (fun a => Ct.mo rfl rfl) ?_
    refine DGG.step (c := fun a => ⟨some 9, .bool (!m), [(8, .bool m)], [], []⟩) [] (fun _ _ _ => rfl) (fun a t hm => One.step rfl (.free rfl) (OpT.not rfl (dl rfl rfl) hm.s0 ⟨u0, rfl⟩)) (fun a => Ct.mo rfl rfl) ?_
    refine DGG.step (c := fun a => ⟨some 10, .bool (!m), [(9, .bool (!m))], [], []⟩) [] (fun _ _ _ => rfl) (fun a t hm => One.step rfl (.free rfl) (OpT.move rfl (dl rfl rfl) hm.s0 ⟨u0, rfl⟩)) (fun a => Ct.mo rfl rfl) ?_
    rcases bif_some h with ⟨l, h⟩ | ⟨l, h⟩
    · refine DGG.step (c := fun a => ⟨some 11, .ptr bx0 0, [(0, .ptr bx0 0), (10, .bool (!m))], [], []⟩) [] (fun _ _ _ => rfl) (fun a t hm => One.step rfl (.on rfl rfl hm.s1 l) (OpT.move rfl (dl rfl rfl) hm.s0 ⟨u0, rfl⟩)) (fun a => Ct.mo rfl rfl) ?_
      refine DGG.step (c := fun a => ⟨some 12, .ptr bx0 0, [(11, .ptr bx0 0), (10, .bool (!m))], [], []⟩) [] (fun _ _ _ => rfl) (fun a t hm => One.step rfl (.on rfl rfl hm.s1 l) (OpT.nilCheck rfl (dl rfl rfl) hm.s0 rfl ⟨u0, rfl⟩)) (fun a => Ct.mo rfl rfl) ?_
      refine DGG.step (c := fun a => ⟨some 13, .ptr bx0 (0 + 0), [(12, .ptr bx0 0), (10, .bool (!m))], [], []⟩) [] (fun _ _ _ => rfl) (fun a t hm => One.step rfl (.on rfl rfl hm.s1 l) (OpT.fP rfl (dl rfl rfl) Tryd.underlying88 rfl i9 (by decide) hm.s0 ⟨u0, rfl⟩)) (fun a => Ct.mo rfl rfl) ?_
      refine DGG.step (c := fun a => ⟨some 14, .str b, [(13, .ptr bx0 (0 + 0)), (10, .bool (!m))], [(0, (o88 bx0 b j ((a 1).1 0) p q v))], []⟩) [1] (fun a γ' h => by simp only [h 1 (by decide)]) (fun a t hm => One.step rfl (.on rfl rfl hm.s1 l) (OpT.lB (i := 0) rfl (dl rfl rfl) Tryd.underlying9 rfl hm.s0 hm.o0 rfl ⟨u0, rfl⟩)) (fun a => Ct.mo rfl rfl) ?_
      refine DGG.step (c := fun a => ⟨some 15, .ptr bx0 0, [(0, .ptr bx0 0), (10, .bool (!m))], [], []⟩) [] (fun _ _ _ => rfl) (fun a t hm => One.step rfl (.on rfl rfl hm.s1 l) (OpT.move rfl (dl rfl rfl) hm.s0 ⟨u0, rfl⟩)) (fun a => Ct.mo rfl rfl) ?_
      refine DGG.step (c := fun a => ⟨some 16, .ptr bx0 0, [(15, .ptr bx0 0), (10, .bool (!m))], [], []⟩) [] (fun _ _ _ => rfl) (fun a t hm => One.step rfl (.on rfl rfl hm.s1 l) (OpT.nilCheck rfl (dl rfl rfl) hm.s0 rfl ⟨u0, rfl⟩)) (fun a => Ct.mo rfl rfl) ?_
      refine DGG.step (c := fun a => ⟨some 17, .ptr bx0 (0 + 1), [(16, .ptr bx0 0), (10, .bool (!m))], [], []⟩) [] (fun _ _ _ => rfl) (fun a t hm => One.step rfl (.on rfl rfl hm.s1 l) (OpT.fP rfl (dl rfl rfl) Tryd.underlying88 rfl i3 (by decide) hm.s0 ⟨u0, rfl⟩)) (fun a => Ct.mo rfl rfl) ?_
      refine DGG.step (c := fun a => ⟨some 18, .int .i64 j, [(17, .ptr bx0 (0 + 1)), (10, .bool (!m))], [(0, (o88 bx0 b j ((a 1).1 0) p q v))], []⟩) [1] (fun a γ' h => by simp only [h 1 (by decide)]) (fun a t hm => One.step rfl (.on rfl rfl hm.s1 l) (OpT.lB (i := 0) rfl (dl rfl rfl) Tryd.underlying3 rfl hm.s0 hm.o0 rfl ⟨u0, rfl⟩)) (fun a => Ct.mo rfl rfl) ?_
      obtain ⟨af, h⟩ := ck_some h
      refine DGG.step (c := fun a => ⟨some 19, .int .u8 (bt b j), [(14, .str b), (18, .int .i64 j), (10, .bool (!m))], [], []⟩) [] (fun _ _ _ => rfl) (fun a t hm => One.step rfl (.on rfl rfl hm.s2 l) (OpT.indexStr rfl (dl rfl rfl) Tryd.underlying9 hm.s0 hm.s1 af.1 af.2 ⟨u0, rfl⟩)) (fun a => Ct.mo rfl rfl) ?_
      refine DGG.step (c := fun a => ⟨some 20, .bool ((bt b j) == (124 : Int)), [(19, .int .u8 (bt b j)), (10, .bool (!m))], [], []⟩) [] (fun _ _ _ => rfl) (fun a t hm => One.step rfl (.on rfl rfl hm.s1 l) (OpT.int2 rfl rfl (dl rfl rfl) hm.s0 rfl ⟨u0, rfl⟩)) (fun a => Ct.mo rfl rfl) ?_
      refine DGG.step (c := fun a => ⟨some 21, .bool ((bt b j) == (124 : Int)), [(10, .bool (!m)), (20, .bool ((bt b j) == (124 : Int)))], [], []⟩) [] (fun _ _ _ => rfl) (fun a t hm => One.step rfl (.free rfl) (OpT.pickT rfl (dl rfl rfl) hm.s0 l hm.s1 ⟨u0, rfl⟩)) (fun a => Ct.mo rfl rfl) ?_
      refine DGG.fin (s1 := fun a => ⟨[(0, .ptr bx0 0), (3, .c (.ex aa)), (11, .ptr bx0 0), (12, .ptr bx0 0), (13, .ptr bx0 (0 + 0)), (14, .str b), (15, .ptr bx0 0), (16, .ptr bx0 0), (17, .ptr bx0 (0 + 1)), (18, .int .i64 j), (19, .int .u8 (bt b j)), (20, .bool ((bt b j) == (124 : Int))), (21, .bool ((bt b j) == (124 : Int)))], [(o88 bx0 b j ((a 1).1 0) p q v), .arrA ((a 1).1 0) 42 9 ((w).map c_aNd), .arrA aa 3 1 (y.map (cI .i64))]⟩) (ms := [0, 1, 3, 7, 15, 31, 63, 127, 15, 271, 783, 1807, 4095, 8191, 16383]) TrydMixed rfl (by kernel_rfl) (by kernel_rfl) (by kernel_rfl) (fun a => by kernel_rfl) (fun a => .cons rfl (.cons rfl (.cons rfl (.cons rfl (.cons rfl (.cons rfl (.cons rfl (.cons rfl (.cons rfl (.cons rfl (.cons rfl (.cons rfl (.cons rfl (.nil _)))))))))))))) (fun _ => rfl) (fun a u hu => (tN (T.by_turn hu ?_)))
      rcases bif_some h with ⟨ad, h⟩ | ⟨ad, h⟩
      · refine T.condT rfl ad ?_
        refine T.skip (tN ?_)
        refine T.block ?_
        refine T.seq ?_
        refine T.rL ?_
        refine mv rfl rfl rfl rfl rfl ?_
        refine sp rfl (OpT.nilCheck rfl (dl rfl rfl) rfl rfl ?_)
        refine sp rfl (OpT.fP rfl (dl rfl rfl) Tryd.underlying88 rfl i3 (by decide) rfl ?_)
        refine sp rfl (OpT.lB (i := 0) rfl (dl rfl rfl) Tryd.underlying3 rfl rfl rfl rfl ?_)
        refine sp rfl (OpT.int2 rfl rfl (dl rfl rfl) rfl rfl ?_)
        refine sp rfl (OpT.nilCheck rfl (dl rfl rfl) rfl rfl ?_)
        refine sp rfl (OpT.fP rfl (dl rfl rfl) Tryd.underlying88 rfl i3 (by decide) rfl ?_)
        refine sp rfl (OpT.sT (i := 0) (cells' := [.d (.str b), .d (.int .i64 (wI (j + (1 : Int)))), .d (.ex ((a 1).1 0)), .d (.int .i64 p), .d (.int .i64 q), .d (.int .i64 v)]) rfl rfl i3 rfl rfl rfl (Nat.le_of_ble_eq_true rfl) rfl ?_)
        refine TL'.nil (tN ?_)
        refine T.rL ?_
        refine mv rfl rfl rfl rfl rfl ?_
        refine mv rfl rfl rfl rfl rfl ?_
        obtain ⟨ab, ai, h⟩ := bind_some h
        refine sp rfl (OpT.callG (is := [0, 1]) (ph := []) rfl (dl rfl rfl) Tryd.func64 rfl rfl (Args.cons rfl Args.nil) (r4r_row_T K rec_r4r_alternative hrec_r4r_alternative (bx0 := bx0) (wx0c2 := ((a 1).1 0)) ai) (.cons rfl rfl (.cons rfl rfl (.nil))) (fun _ => rfl) (fun aj => ?_))
        refine nm (.c (.c (.c (.n)))) ?_
        refine sp rfl (OpT.buildSlice (elems := ([ab.1] : List Int).map (cI .i64)) rfl (dl rfl rfl) Tryd.underlying40 i3 (by decide) rfl (all1 rfl) rfl rfl rfl (lenAll rfl) (by decide) ?_)
        obtain ⟨al, h⟩ := ck_some h
        refine sp rfl (OpT.appendAM (i := 2) (xs := y) (ys := [ab.1]) (f := (cI .i64)) rfl (dl rfl rfl) Tryd.underlying40 i3 rfl rfl rfl rfl al (fun am => ?_))
        refine asg rfl rfl rfl rfl rfl ?_
        refine TL'.nil (inBlock_normal (tN ?_))
        refine TL.by_turn ?_ (ih ab.2.s ab.2.at_ ab.2.deep ab.2.e ab.2.where_ ab.2.nodes (y ++ [ab.1]) (aj 0) am h)
        exact Turn.rp (.cons rfl (.cons rfl (.nil _))) (.c .z (.c .z (.c .z (.n _))))
      · refine T.condF rfl ad ?_
        refine T.by_turn ?_ (r4r_alternative_j1_T K rec_r4r_alternative hrec_r4r_alternative bx0 b j p q v w y ((a 1).1 0) aa h)
        exact Turn.rp (.cons rfl (.cons rfl (.nil _))) (.c .z (.c .z (.c .z (.n _))))
    · refine DGG.off l rfl rfl rfl rfl rfl (fun _ => rfl) ?_
      refine DGG.off l rfl rfl rfl rfl rfl (fun _ => rfl) ?_
      refine DGG.off l rfl rfl rfl rfl rfl (fun _ => rfl) ?_
      refine DGG.off l rfl rfl rfl rfl rfl (fun _ => rfl) ?_
      refine DGG.off l rfl rfl rfl rfl rfl (fun _ => rfl) ?_
      refine DGG.off l rfl rfl rfl rfl rfl (fun _ => rfl) ?_
      refine DGG.off l rfl rfl rfl rfl rfl (fun _ => rfl) ?_
      refine DGG.off l rfl rfl rfl rfl rfl (fun _ => rfl) ?_
      refine DGG.off l rfl rfl rfl rfl rfl (fun _ => rfl) ?_
      refine DGG.off l rfl rfl rfl rfl rfl (fun _ => rfl) ?_
      refine DGG.step (c := fun a => ⟨some 21, .bool false, [(10, .bool (!m))], [], []⟩) [] (fun _ _ _ => rfl) (fun a t hm => One.step rfl (.free rfl) (OpT.pickF rfl (dl rfl rfl) hm.s0 l rfl ⟨u0, rfl⟩)) (fun a => Ct.mo rfl rfl) ?_
      refine DGG.fin (s1 := fun a => ⟨[(0, .ptr bx0 0), (3, .c (.ex aa)), (11, .tup []), (12, .tup []), (13, .tup []), (14, .tup []), (15, .tup []), (16, .tup []), (17, .tup []), (18, .tup []), (19, .tup []), (20, .tup []), (21, .bool false)], [(o88 bx0 b j ((a 1).1 0) p q v), .arrA ((a 1).1 0) 42 9 ((w).map c_aNd), .arrA aa 3 1 (y.map (cI .i64))]⟩) (ms := [0, 1, 3, 7, 15, 31, 63, 127, 15, 271, 783, 1807, 4095, 8191, 16383]) TrydMixed rfl (by kernel_rfl) (by kernel_rfl) (by kernel_rfl) (fun a => by kernel_rfl) (fun a => .cons rfl (.cons rfl (.cons rfl (.cons rfl (.cons rfl (.cons rfl (.cons rfl (.cons rfl (.cons rfl (.cons rfl (.cons rfl (.cons rfl (.cons rfl (.nil _)))))))))))))) (fun _ => rfl) (fun a u hu => (tN (T.by_turn hu ?_)))
      refine T.condF rfl rfl ?_
      refine T.by_turn ?_ (r4r_alternative_j1_T K rec_r4r_alternative hrec_r4r_alternative bx0 b j p q v w y ((a 1).1 0) aa h)
      exact Turn.rp (.cons rfl (.cons rfl (.nil _))) (.c .z (.c .z (.c .z (.n _))))
theorem r4r_alternative_b_T (K : Nat) (rec_r4r_alternative : r4r → Option (Int × r4r)) (hrec_r4r_alternative : r4r_alternative_S rec_r4r_alternative) {x0 : r4r} {bx0 : Nat} {wx0c2 : Value} {r : Int × r4r} (h : r4r_alternative_b K rec_r4r_alternative x0 = some r) : CallG Tryd.prog 48 [.ptr bx0 0] [(o88 bx0 x0.s x0.at_ wx0c2 x0.deep x0.e x0.where_), .arrA wx0c2 42 9 (x0.nodes.map c_aNd)] (fun γ => (.int .i64 r.1)) (fun γ => [(o88 bx0 r.2.s r.2.at_ (γ 0) r.2.deep r.2.e r.2.where_), .arrA (γ 0) 42 9 (r.2.nodes.map c_aNd)]) := by
 refine CallT.intro Tryd.func48 rfl (nb rfl) ?_
 show T Tryd.prog 51 (Code.at [] (codeOf Tryd.f48)) ⟨paramSlots 0 [.ptr bx0 0], [(o88 bx0 x0.s x0.at_ wx0c2 x0.deep x0.e x0.where_), .arrA wx0c2 42 9 (x0.nodes.map c_aNd)]⟩ (r4r_alternative_q bx0 r)
 unfold r4r_alternative_b at h
 refine T.seq (T.rL ?_)
 refine aw rfl ?_
 refine TL'.nil (tN (T.seq (T.rL ?_)))
 refine mw rfl ?_
 obtain ⟨a, b, h⟩ := bind_some h
 refine sp rfl (OpT.callG (is := [0, 1]) (ph := []) rfl (dk rfl) Tryd.func64 rfl rfl (Args.cons rfl Args.nil) (r4r_row_T K rec_r4r_alternative hrec_r4r_alternative (bx0 := bx0) (wx0c2 := wx0c2) b) (.cons rfl rfl (.cons rfl rfl (.nil))) (fun _ => rfl) (fun d => ?_))
 refine nm (.c (.c (.n))) ?_
 refine sp rfl (OpT.buildSlice (elems := ([a.1] : List Int).map (cI .i64)) rfl (dk rfl) ul40 i3 (by decide) rfl (all1 rfl) rfl rfl rfl (lenAll rfl) (by decide) ?_)
 refine aw rfl ?_
 refine TL'.nil (tN ?_)
 refine T.seq ?_
 refine T.block ?_
 refine T.loop ?_
 refine TL.by_turnG (TurnG.ownFull 3 3 rfl) (fun f => ?_)
 refine TL.by_turn ?_ (r4r_alternative_l0_T K rec_r4r_alternative hrec_r4r_alternative bx0 K a.2.s a.2.at_ a.2.deep a.2.e a.2.where_ a.2.nodes [a.1] (d 0) f h)
 exact Turn.rp (.cons rfl (.cons rfl (.nil _))) (.c (.s .z) (.c (.s .z) (.c .z (.n _))))
theorem r4r_alternative_r_T (K : Nat) : ∀ n, r4r_alternative_S (r4r_alternative_r K n) := by
  intro n
  induction n with
  | zero =>
    intro x0 bx0 wx0c2 r h
    cases (show (none : Option (Int × r4r)) = some r from h)
  | succ n ih =>
    intro x0 bx0 wx0c2 r h
    exact r4r_alternative_b_T K (r4r_alternative_r K n) ih h
theorem r4r_alternative_T (K : Nat) {x0 : r4r} {bx0 : Nat} {wx0c2 : Value} {r : Int × r4r} (h : r4r_alternative K x0 = some r) : CallG Tryd.prog 48 [.ptr bx0 0] [(o88 bx0 x0.s x0.at_ wx0c2 x0.deep x0.e x0.where_), .arrA wx0c2 42 9 (x0.nodes.map c_aNd)] (fun γ => (.int .i64 r.1)) (fun γ => [(o88 bx0 r.2.s r.2.at_ (γ 0) r.2.deep r.2.e r.2.where_), .arrA (γ 0) 42 9 (r.2.nodes.map c_aNd)]) := r4r_alternative_r_T K K x0 bx0 wx0c2 r h
abbrev r4_Parse_q (r : (List aNd) × Int × Int) : Exit → St → Prop := retS Tryd.prog Tryd.f25 (fun y t => y = (.tup [.sl false 9 (r.1.map c_aNd), .int .i64 r.2.1, .int .i64 r.2.2]) ∧ t = [])
theorem r4_Parse_T (K : Nat) {x0 : ByteArray} {r : (List aNd) × Int × Int} (h : r4_Parse K x0 = some r) : CallR Tryd.prog 25 [.str x0] [] (.tup [.sl false 9 (r.1.map c_aNd), .int .i64 r.2.1, .int .i64 r.2.2]) := by
 refine CallT.intro Tryd.func25 rfl (nb rfl) ?_
 show T Tryd.prog 46 (Code.at [] (codeOf Tryd.f25)) ⟨paramSlots 0 [.str x0], []⟩ (r4_Parse_q r)
 unfold r4_Parse at h
 refine T.seq (T.rL ?_)
 refine aw rfl ?_
 refine aw rfl ?_
 refine aw rfl ?_
 refine TL'.nil (tN ?_)
 refine T.seq ?_
 refine T.seq (T.rL ?_)
 refine mw rfl ?_
 refine sp rfl (OpT.lenStr rfl (dk rfl) ul9 rfl ?_)
 refine sp rfl (OpT.int2 rfl rfl (dk rfl) rfl rfl ?_)
 refine TL'.nil (tN ?_)
 rcases bif_some h with ⟨g, h⟩ | ⟨g, h⟩
 refine T.condT rfl g ?_
 refine T.seq (T.rL ?_)
 refine aw rfl ?_
 refine aw rfl ?_
 refine aw rfl ?_
 refine TL'.nil (tN ?_)
 refine T.ret (thenS_ret ?_)
 refine Fin.turn (Turn.nilSl 2 false 9 rfl) ?_
 exact Fin.done (.cons _ _ _ _ (.tmp 2 _ rfl) (.cons _ _ _ _ (.tmp 3 _ rfl) (.cons _ _ _ _ (.tmp 4 _ rfl) .nil))) (by cases h; exact ⟨rfl, rfl⟩)
 refine T.condF rfl g ?_
 refine T.skip (tN ?_)
 refine T.seq (T.rL ?_)
 refine mw rfl ?_
 refine sp rfl (OpT.build (l := [.str x0, .int .i64 (0 : Int), .ex (.slice none 0 0), .int .i64 (0 : Int), .int .i64 (0 : Int), .int .i64 (0 : Int)]) rfl (dk rfl) (built_struct (pl := [(0, 1), (1, 1), (2, 1), (3, 1), (4, 1), (5, 1)]) ul88 i88 rfl) (all1 rfl) rfl rfl ?_)
 refine sp rfl (OpT.boxAgg rfl (dk rfl) rfl (fun b => ?_))
 refine aw rfl ?_
 refine TL'.nil (tN (T.seq (T.rL ?_)))
 refine mw rfl ?_
 refine TL'.turn (Turn.nilA 42 9) ?_
 obtain ⟨a, q, h⟩ := bind_some h
 refine sp rfl (OpT.callG (is := [1, 0]) (ph := []) rfl (dk rfl) Tryd.func48 rfl rfl (Args.cons rfl Args.nil) (r4r_alternative_T K (bx0 := b) (wx0c2 := (nilv 5)) q) (.cons rfl rfl (.cons rfl rfl (.nil))) (fun _ => rfl) (fun v => ?_))
 refine nm (.c (.c (.n))) ?_
 refine TL'.nil (tN ?_)
 refine T.seq ?_
 refine T.seq (T.rL ?_)
 refine mw rfl ?_
 obtain ⟨y, w, h⟩ := bind_some h
 refine sp rfl (OpT.callG (is := [1, 0]) (ph := []) rfl (dk rfl) Tryd.func49 rfl rfl (Args.cons rfl Args.nil) (r4r_ends_T K (bx0 := b) (wx0c2 := (v 0)) w) (.cons rfl rfl (.cons rfl rfl (.nil))) (fun _ => rfl) (fun d => ?_))
 refine nm (.c (.c (.n))) ?_
 refine sp rfl (OpT.not rfl (dk rfl) rfl ?_)
 refine TL'.nil (tN ?_)
 rcases bif_some h with ⟨j, h⟩ | ⟨j, h⟩
 refine T.condT rfl j ?_
 refine T.rL ?_
 refine mw rfl ?_
 refine mw rfl ?_
 refine sp rfl (OpT.nilCheck rfl (dk rfl) rfl rfl ?_)
 refine sp rfl (OpT.fP rfl (dk rfl) ul88 rfl i3 (by decide) rfl ?_)
 refine sp rfl (OpT.lB (i := 1) rfl (dk rfl) ul3 rfl rfl rfl rfl ?_)
 cases h
 refine T.condF rfl j ?_
 refine T.skip (tN ?_)
 refine T.seq ?_
 refine T.seq (T.rL ?_)
 refine mw rfl ?_
 refine sp rfl (OpT.nilCheck rfl (dk rfl) rfl rfl ?_)
 refine sp rfl (OpT.fP rfl (dk rfl) ul88 rfl i35 (by decide) rfl ?_)
 refine sp rfl (OpT.lB (i := 1) rfl (dk rfl) ul35 rfl rfl rfl rfl ?_)
 refine sp rfl (OpT.int2 rfl rfl (dk rfl) rfl rfl ?_)
 refine TL'.nil (tN ?_)
 rcases bif_some h with ⟨m, h⟩ | ⟨m, h⟩
 refine T.condT rfl m ?_
 refine T.seq ?_
 refine DG.start ?_
 refine DG.mv rfl rfl rfl rfl rfl rfl ?_
 refine DG.step (c := ⟨some 29, .ptr b 0, [(28, .ptr b 0)], [], []⟩) (fun t hm => One.step rfl (.free rfl) (OpT.nilCheck rfl (dk rfl) hm.s0 rfl rfl)) (Ct.mo rfl rfl) ?_
 refine DG.step (c := ⟨some 30, .ptr b (0 + 5), [(29, .ptr b 0)], [], []⟩) (fun t hm => One.step rfl (.free rfl) (OpT.fP rfl (dk rfl) ul88 rfl i3 (by decide) hm.s0 rfl)) (Ct.mo rfl rfl) ?_
 refine DG.step (c := ⟨some 31, .int .i64 a.2.where_, [(30, .ptr b (0 + 5))], [(1, (o88 b a.2.s a.2.at_ (d 0) a.2.deep a.2.e a.2.where_))], []⟩) (fun t hm => One.step rfl (.free rfl) (OpT.lB (i := 1) rfl (dk rfl) ul3 rfl hm.s0 hm.o0 rfl rfl)) (Ct.mo rfl rfl) ?_
 refine DG.mv rfl rfl rfl rfl rfl rfl ?_
 refine DG.step (c := ⟨some 33, .ptr b 0, [(32, .ptr b 0)], [], []⟩) (fun t hm => One.step rfl (.free rfl) (OpT.nilCheck rfl (dk rfl) hm.s0 rfl rfl)) (Ct.mo rfl rfl) ?_
 refine DG.step (c := ⟨some 34, .ptr b (0 + 4), [(33, .ptr b 0)], [], []⟩) (fun t hm => One.step rfl (.free rfl) (OpT.fP rfl (dk rfl) ul88 rfl i35 (by decide) hm.s0 rfl)) (Ct.mo rfl rfl) ?_
 refine DG.step (c := ⟨some 35, .int .i64 a.2.e, [(34, .ptr b (0 + 4))], [(1, (o88 b a.2.s a.2.at_ (d 0) a.2.deep a.2.e a.2.where_))], []⟩) (fun t hm => One.step rfl (.free rfl) (OpT.lB (i := 1) rfl (dk rfl) ul35 rfl hm.s0 hm.o0 rfl rfl)) (Ct.mo rfl rfl) ?_
 refine DG.step (c := ⟨some 2, .c (.ex (.slice none 0 0)), [], [], []⟩) (fun t hm => One.step rfl (.free rfl) (OpT.assign rfl (dk rfl) rfl rfl)) (Ct.mo rfl rfl) ?_
 refine DG.step (c := ⟨some 3, .int .i64 a.2.where_, [(31, .int .i64 a.2.where_)], [], []⟩) (fun t hm => One.step rfl (.free rfl) (OpT.assign rfl (dk rfl) hm.s0 rfl)) (Ct.mo rfl rfl) ?_
 refine DG.step (c := ⟨some 4, .int .i64 a.2.e, [(35, .int .i64 a.2.e)], [], []⟩) (fun t hm => One.step rfl (.free rfl) (OpT.assign rfl (dk rfl) hm.s0 rfl)) (Ct.mo rfl rfl) ?_
 refine DG.fin (s1 := ⟨[(2, .c (.ex (.slice none 0 0))), (3, .int .i64 a.2.where_), (4, .int .i64 a.2.e)], [.arrA (d 0) 42 9 (a.2.nodes.map c_aNd), (o88 b a.2.s a.2.at_ (d 0) a.2.deep a.2.e a.2.where_)]⟩) (ms := [0, 1, 3, 7, 0, 16, 48, 112, 0, 271, 1023]) TrydMixed rfl (by kernel_rfl) (by kernel_rfl) (by kernel_rfl) (.cons rfl (.cons rfl (.cons rfl (.nil _)))) rfl (fun u hu => (tN (T.by_turn hu ?_)))
 refine T.ret (thenS_ret ?_)
 refine Fin.turn (Turn.nilSl 2 false 9 rfl) ?_
 exact Fin.done (.cons _ _ _ _ (.tmp 2 _ rfl) (.cons _ _ _ _ (.tmp 3 _ rfl) (.cons _ _ _ _ (.tmp 4 _ rfl) .nil))) (by cases h; exact ⟨rfl, rfl⟩)
 refine T.condF rfl m ?_
 refine T.skip (tN ?_)
 refine T.seq ?_
 refine T.seq (T.rL ?_)
 refine mw rfl ?_
 refine sp rfl (OpT.nilCheck rfl (dk rfl) rfl rfl ?_)
 refine sp rfl (OpT.fP rfl (dk rfl) ul88 rfl i22 (by decide) rfl ?_)
 refine sp rfl (OpT.thenTurn (OpT.lB (i := 1) rfl (dk rfl) ul22 rfl rfl rfl rfl rfl) (Turn.viewP 39 0 rfl) ?_)
 refine sp rfl (OpT.lenSlM (xs := a.2.nodes) (f := c_aNd) rfl (dk rfl) ul22 rfl ?_)
 refine sp rfl (OpT.int2 rfl rfl (dk rfl) rfl rfl ?_)
 refine TL'.nil (tN ?_)
 rcases bif_some h with ⟨p, h⟩ | ⟨p, h⟩
 refine T.condT rfl p ?_
 refine T.seq (T.rL ?_)
 refine aw rfl ?_
 refine aw rfl ?_
 refine aw rfl ?_
 refine TL'.nil (tN ?_)
 refine T.ret (thenS_ret ?_)
 refine Fin.turn (Turn.nilSl 2 false 9 rfl) ?_
 exact Fin.done (.cons _ _ _ _ (.tmp 2 _ rfl) (.cons _ _ _ _ (.tmp 3 _ rfl) (.cons _ _ _ _ (.tmp 4 _ rfl) .nil))) (by cases h; exact ⟨rfl, rfl⟩)
 refine T.condF rfl p ?_
 refine T.skip (tN ?_)
 refine T.seq (T.rL ?_)
 refine mw rfl ?_
 refine sp rfl (OpT.nilCheck rfl (dk rfl) rfl rfl ?_)
 refine sp rfl (OpT.fP rfl (dk rfl) ul88 rfl i22 (by decide) rfl ?_)
 refine sp rfl (OpT.lB (i := 1) rfl (dk rfl) ul22 rfl rfl rfl rfl ?_)
 refine aw rfl ?_
 refine aw rfl ?_
 refine aw rfl ?_
 refine TL'.nil (tN ?_)
 refine T.ret ?_
 refine Fin.turn (Turn.view 2 0 rfl rfl) ?_
 exact Fin.done (.cons _ _ _ _ (.tmp 2 _ rfl) (.cons _ _ _ _ (.tmp 3 _ rfl) (.cons _ _ _ _ (.tmp 4 _ rfl) .nil))) (by cases h; exact ⟨rfl, rfl⟩)
abbrev sy_letter_q (r : Bool) : Exit → St → Prop := retS Tryd.prog Tryd.f73 (fun y t => y = (.bool r) ∧ t = [])
theorem sy_letter_T (K : Nat) {x0 : Int} {r : Bool} (h : sy_letter K x0 = some r) : CallR Tryd.prog 73 [.int .u8 x0] [] (.bool r) := by
 refine CallT.intro Tryd.func73 rfl (nb rfl) ?_
 show T Tryd.prog 21 (Code.at [] (codeOf Tryd.f73)) ⟨paramSlots 0 [.int .u8 x0], []⟩ (sy_letter_q r)
 unfold sy_letter at h
 refine T.seq (T.rL ?_)
 refine aw rfl ?_
 refine TL'.nil (tN (T.seq (T.rL ?_)))
 refine mw rfl ?_
 refine sp rfl (OpT.int2 rfl rfl (dk rfl) rfl rfl ?_)
 refine mw rfl ?_
 rcases bif_some h with ⟨b, h⟩ | ⟨b, h⟩
 refine TL'.step (.on rfl rfl rfl b) (OpT.move rfl (dk rfl) rfl ?_)
 refine TL'.step (.on rfl rfl rfl b) (OpT.int2 rfl rfl (dk rfl) rfl rfl ?_)
 refine sp rfl (OpT.pickT rfl (dk rfl) rfl b rfl ?_)
 refine mw rfl ?_
 rcases bif_some h with ⟨a, h⟩ | ⟨a, h⟩
 refine TL'.pU (.off _ _ _ _ rfl rfl rfl a) (dk rfl) ?_
 refine TL'.pU (.off _ _ _ _ rfl rfl rfl a) (dk rfl) ?_
 refine TL'.pU (.off _ _ _ _ rfl rfl rfl a) (dk rfl) ?_
 refine TL'.pU (.gone _ _ _ rfl rfl rfl) (dk rfl) ?_
 refine TL'.pU (.gone _ _ _ rfl rfl rfl) (dk rfl) ?_
 refine TL'.pU (.off _ _ _ _ rfl rfl rfl a) (dk rfl) ?_
 refine sp rfl (OpT.pickT rfl (dk rfl) rfl a rfl ?_)
 refine mw rfl ?_
 refine TL'.pU (.off _ _ _ _ rfl rfl rfl rfl) (dk rfl) ?_
 refine TL'.pU (.off _ _ _ _ rfl rfl rfl rfl) (dk rfl) ?_
 refine sp rfl (OpT.pickT rfl (dk rfl) rfl rfl rfl ?_)
 refine aw rfl ?_
 refine TL'.nil (tN ?_)
 refine T.ret ?_
 exact Fin.done (.cons _ _ _ _ (.tmp 2 _ rfl) .nil) (by cases h; exact ⟨rfl, rfl⟩)
 refine TL'.step (.on rfl rfl rfl a) (OpT.move rfl (dk rfl) rfl ?_)
 refine TL'.step (.on rfl rfl rfl a) (OpT.int2 rfl rfl (dk rfl) rfl rfl ?_)
 refine TL'.step (.on rfl rfl rfl a) (OpT.move rfl (dk rfl) rfl ?_)
 rcases bif_some h with ⟨c, h⟩ | ⟨c, h⟩
 refine TL'.step (.on rfl rfl rfl c) (OpT.move rfl (dk rfl) rfl ?_)
 refine TL'.step (.on rfl rfl rfl c) (OpT.int2 rfl rfl (dk rfl) rfl rfl ?_)
 refine TL'.step (.on rfl rfl rfl a) (OpT.pickT rfl (dk rfl) rfl c rfl ?_)
 refine sp rfl (OpT.pickF rfl (dk rfl) rfl a rfl ?_)
 refine mw rfl ?_
 rcases bif_some h with ⟨d, h⟩ | ⟨d, h⟩
 refine TL'.pU (.off _ _ _ _ rfl rfl rfl d) (dk rfl) ?_
 refine TL'.pU (.off _ _ _ _ rfl rfl rfl d) (dk rfl) ?_
 refine sp rfl (OpT.pickT rfl (dk rfl) rfl d rfl ?_)
 refine aw rfl ?_
 refine TL'.nil (tN ?_)
 refine T.ret ?_
 exact Fin.done (.cons _ _ _ _ (.tmp 2 _ rfl) .nil) (by cases h; exact ⟨rfl, rfl⟩)
 refine TL'.step (.on rfl rfl rfl d) (OpT.move rfl (dk rfl) rfl ?_)
 refine TL'.step (.on rfl rfl rfl d) (OpT.int2 rfl rfl (dk rfl) rfl rfl ?_)
 refine sp rfl (OpT.pickF rfl (dk rfl) rfl d rfl ?_)
 refine aw rfl ?_
 refine TL'.nil (tN ?_)
 refine T.ret ?_
 exact Fin.done (.cons _ _ _ _ (.tmp 2 _ rfl) .nil) (by cases h; exact ⟨rfl, rfl⟩)
 refine TL'.pU (.off _ _ _ _ rfl rfl rfl c) (dk rfl) ?_
 refine TL'.pU (.off _ _ _ _ rfl rfl rfl c) (dk rfl) ?_
 refine TL'.step (.on rfl rfl rfl a) (OpT.pickF rfl (dk rfl) rfl c rfl ?_)
 refine sp rfl (OpT.pickF rfl (dk rfl) rfl a rfl ?_)
 refine mw rfl ?_
 refine TL'.step (.on rfl rfl rfl rfl) (OpT.move rfl (dk rfl) rfl ?_)
 refine TL'.step (.on rfl rfl rfl rfl) (OpT.int2 rfl rfl (dk rfl) rfl rfl ?_)
 refine sp rfl (OpT.pickF rfl (dk rfl) rfl rfl rfl ?_)
 refine aw rfl ?_
 refine TL'.nil (tN ?_)
 refine T.ret ?_
 exact Fin.done (.cons _ _ _ _ (.tmp 2 _ rfl) .nil) (by cases h; exact ⟨rfl, rfl⟩)
 refine TL'.pU (.off _ _ _ _ rfl rfl rfl b) (dk rfl) ?_
 refine TL'.pU (.off _ _ _ _ rfl rfl rfl b) (dk rfl) ?_
 refine sp rfl (OpT.pickF rfl (dk rfl) rfl b rfl ?_)
 refine mw rfl ?_
 refine TL'.step (.on rfl rfl rfl rfl) (OpT.move rfl (dk rfl) rfl ?_)
 refine TL'.step (.on rfl rfl rfl rfl) (OpT.int2 rfl rfl (dk rfl) rfl rfl ?_)
 refine TL'.step (.on rfl rfl rfl rfl) (OpT.move rfl (dk rfl) rfl ?_)
 rcases bif_some h with ⟨f, h⟩ | ⟨f, h⟩
 refine TL'.step (.on rfl rfl rfl f) (OpT.move rfl (dk rfl) rfl ?_)
 refine TL'.step (.on rfl rfl rfl f) (OpT.int2 rfl rfl (dk rfl) rfl rfl ?_)
 refine TL'.step (.on rfl rfl rfl rfl) (OpT.pickT rfl (dk rfl) rfl f rfl ?_)
 refine sp rfl (OpT.pickF rfl (dk rfl) rfl rfl rfl ?_)
 refine mw rfl ?_
 rcases bif_some h with ⟨g, h⟩ | ⟨g, h⟩
 refine TL'.pU (.off _ _ _ _ rfl rfl rfl g) (dk rfl) ?_
 refine TL'.pU (.off _ _ _ _ rfl rfl rfl g) (dk rfl) ?_
 refine sp rfl (OpT.pickT rfl (dk rfl) rfl g rfl ?_)
 refine aw rfl ?_
 refine TL'.nil (tN ?_)
 refine T.ret ?_
 exact Fin.done (.cons _ _ _ _ (.tmp 2 _ rfl) .nil) (by cases h; exact ⟨rfl, rfl⟩)
 refine TL'.step (.on rfl rfl rfl g) (OpT.move rfl (dk rfl) rfl ?_)
 refine TL'.step (.on rfl rfl rfl g) (OpT.int2 rfl rfl (dk rfl) rfl rfl ?_)
 refine sp rfl (OpT.pickF rfl (dk rfl) rfl g rfl ?_)
 refine aw rfl ?_
 refine TL'.nil (tN ?_)
 refine T.ret ?_
 exact Fin.done (.cons _ _ _ _ (.tmp 2 _ rfl) .nil) (by cases h; exact ⟨rfl, rfl⟩)
 refine TL'.pU (.off _ _ _ _ rfl rfl rfl f) (dk rfl) ?_
 refine TL'.pU (.off _ _ _ _ rfl rfl rfl f) (dk rfl) ?_
 refine TL'.step (.on rfl rfl rfl rfl) (OpT.pickF rfl (dk rfl) rfl f rfl ?_)
 refine sp rfl (OpT.pickF rfl (dk rfl) rfl rfl rfl ?_)
 refine mw rfl ?_
 refine TL'.step (.on rfl rfl rfl rfl) (OpT.move rfl (dk rfl) rfl ?_)
 refine TL'.step (.on rfl rfl rfl rfl) (OpT.int2 rfl rfl (dk rfl) rfl rfl ?_)
 refine sp rfl (OpT.pickF rfl (dk rfl) rfl rfl rfl ?_)
 refine aw rfl ?_
 refine TL'.nil (tN ?_)
 refine T.ret ?_
 exact Fin.done (.cons _ _ _ _ (.tmp 2 _ rfl) .nil) (by cases h; exact ⟨rfl, rfl⟩)
abbrev sy_digit_q (r : Bool) : Exit → St → Prop := retS Tryd.prog Tryd.f74 (fun y t => y = (.bool r) ∧ t = [])
theorem sy_digit_T (K : Nat) {x0 : Int} {r : Bool} (h : sy_digit K x0 = some r) : CallR Tryd.prog 74 [.int .u8 x0] [] (.bool r) := by
 refine CallT.intro Tryd.func74 rfl (nb rfl) ?_
 show T Tryd.prog 9 (Code.at [] (codeOf Tryd.f74)) ⟨paramSlots 0 [.int .u8 x0], []⟩ (sy_digit_q r)
 unfold sy_digit at h
 refine T.seq (T.rL ?_)
 refine aw rfl ?_
 refine TL'.nil (tN (T.seq (T.rL ?_)))
 refine mw rfl ?_
 refine sp rfl (OpT.int2 rfl rfl (dk rfl) rfl rfl ?_)
 refine mw rfl ?_
 rcases bif_some h with ⟨a, h⟩ | ⟨a, h⟩
 refine TL'.step (.on rfl rfl rfl a) (OpT.move rfl (dk rfl) rfl ?_)
 refine TL'.step (.on rfl rfl rfl a) (OpT.int2 rfl rfl (dk rfl) rfl rfl ?_)
 refine sp rfl (OpT.pickT rfl (dk rfl) rfl a rfl ?_)
 refine aw rfl ?_
 refine TL'.nil (tN ?_)
 refine T.ret ?_
 exact Fin.done (.cons _ _ _ _ (.tmp 2 _ rfl) .nil) (by cases h; exact ⟨rfl, rfl⟩)
 refine TL'.pU (.off _ _ _ _ rfl rfl rfl a) (dk rfl) ?_
 refine TL'.pU (.off _ _ _ _ rfl rfl rfl a) (dk rfl) ?_
 refine sp rfl (OpT.pickF rfl (dk rfl) rfl a rfl ?_)
 refine aw rfl ?_
 refine TL'.nil (tN ?_)
 refine T.ret ?_
 exact Fin.done (.cons _ _ _ _ (.tmp 2 _ rfl) .nil) (by cases h; exact ⟨rfl, rfl⟩)
abbrev sy_Name_q (r : Bool) : Exit → St → Prop := retS Tryd.prog Tryd.f56 (fun y t => y = (.bool r) ∧ t = [])
abbrev sy_Name_qs11 (r : Bool) : Exit → St → Prop := thenS (fun s' => T Tryd.prog 34 (Code.at [1, 1] (codeOf Tryd.f56)) s' ((sy_Name_q r))) ((sy_Name_q r))
abbrev sy_Name_qb0x11 (r : Bool) : Exit → St → Prop := inBlockS 0 ((sy_Name_qs11 r))
abbrev sy_Name_ql1010 (r : Bool) : Exit → St → Prop := thenS (fun s' => TL Tryd.prog 34 (Code.at [1, 0, 1, 0, 0] (codeOf Tryd.f56)) s' ((sy_Name_qb0x11 r))) ((sy_Name_qb0x11 r))
abbrev sy_Name_qs10100111 (r : Bool) : Exit → St → Prop := thenS (fun s' => T Tryd.prog 34 (Code.at [1, 0, 1, 0, 0, 1, 1, 1] (codeOf Tryd.f56)) s' ((sy_Name_ql1010 r))) ((sy_Name_ql1010 r))
abbrev sy_Name_qb1_0x10100111 (r : Bool) : Exit → St → Prop := inBlockS 1 ((sy_Name_qs10100111 r))
theorem sy_Name_j1_T {r : Bool} (K : Nat) (h : sy_Name_j1 K = some r) : T Tryd.prog 34 (Code.at [1, 0, 1, 0, 0, 1, 1, 0, 0, 1, 1, 0] (codeOf Tryd.f56)) ⟨[], []⟩ (sy_Name_qb1_0x10100111 r) := by
 unfold sy_Name_j1 at h
 refine T.seq (T.rL ?_)
 refine aw rfl ?_
 refine TL'.nil (tN ?_)
 refine T.ret (inBlock_ret (thenS_ret (thenS_ret (inBlock_ret (thenS_ret ?_)))))
 exact Fin.done (.cons _ _ _ _ (.tmp 2 _ rfl) .nil) (by cases h; exact ⟨rfl, rfl⟩)
theorem sy_Name_l0_T {r : Bool} (K : Nat) : ∀ (k : Nat), ∀ (x0 : ByteArray) (d : Int) (f : Int), sy_Name_l0 K k x0 d f = some r → TL Tryd.prog 34 (Code.at [1, 0, 1, 0, 0] (codeOf Tryd.f56)) ⟨[(0, .str x0), (5, .int .i64 d), (6, .int .i64 f)], []⟩ (sy_Name_qb0x11 r) := by
  intro k
  induction k with
  | zero =>
    intro x0 d f h
    cases (show (none : Option Bool) = some r from h)
  | succ k ih =>
    intro x0 d f h
    rw [sy_Name_l0] at h
    refine TL.round ?_
    refine T.seq ?_
    refine T.rL ?_
    refine sp rfl (OpT.int2 rfl rfl (dl rfl rfl) rfl rfl ?_)
    refine TL'.nil (tN ?_)
    refine T.seq ?_
    rcases bif_some h with ⟨i, h⟩ | ⟨i, h⟩
    · refine T.condT rfl i ?_
      refine T.skip (tN ?_)
      refine T.seq ?_
      refine T.block ?_
      refine T.seq ?_
      refine T.rL ?_
      refine mv rfl rfl rfl rfl rfl ?_
      refine asg rfl rfl rfl rfl rfl ?_
      refine TL'.nil (tN ?_)
      refine T.seq ?_
      refine T.rL ?_
      refine mv rfl rfl rfl rfl rfl ?_
      refine mv rfl rfl rfl rfl rfl ?_
      obtain ⟨g, h⟩ := ck_some h
      refine sp rfl (OpT.indexStr rfl (dl rfl rfl) Tryd.underlying9 rfl rfl g.1 g.2 ?_)
      obtain ⟨p, l, h⟩ := bind_some h
      refine sp rfl (OpT.callPA rfl (dl rfl rfl) Tryd.func73 rfl rfl (Args.cons rfl Args.nil) (CallR.nil (sy_letter_T K l)) ?_)
      refine sp rfl (OpT.not rfl (dl rfl rfl) rfl ?_)
      refine mv rfl rfl rfl rfl rfl ?_
      rcases bif_some h with ⟨a, h⟩ | ⟨a, h⟩
      · refine TL'.step (.on rfl rfl rfl a) (OpT.move rfl (dl rfl rfl) rfl ?_)
        refine TL'.step (.on rfl rfl rfl a) (OpT.int2 rfl rfl (dl rfl rfl) rfl rfl ?_)
        refine TL'.step (.on rfl rfl rfl a) (OpT.move rfl (dl rfl rfl) rfl ?_)
        rcases bif_some h with ⟨b, h⟩ | ⟨b, h⟩
        · refine TL'.pU (.off _ _ _ _ rfl rfl rfl b) (dl rfl rfl) ?_
          refine TL'.pU (.off _ _ _ _ rfl rfl rfl b) (dl rfl rfl) ?_
          refine TL'.pU (.off _ _ _ _ rfl rfl rfl b) (dl rfl rfl) ?_
          refine TL'.pU (.off _ _ _ _ rfl rfl rfl b) (dl rfl rfl) ?_
          refine TL'.pU (.off _ _ _ _ rfl rfl rfl b) (dl rfl rfl) ?_
          refine TL'.step (.on rfl rfl rfl a) (OpT.pickT rfl (dl rfl rfl) rfl b rfl ?_)
          refine sp rfl (OpT.pickT rfl (dl rfl rfl) rfl a rfl ?_)
          refine TL'.nil (tN ?_)
          refine T.condT rfl rfl ?_
          refine T.by_turn ?_ (sy_Name_j1_T K h)
          exact Turn.rp (.nil _) (.n _)
        · refine TL'.step (.on rfl rfl rfl b) (OpT.move rfl (dl rfl rfl) rfl ?_)
          refine TL'.step (.on rfl rfl rfl b) (OpT.move rfl (dl rfl rfl) rfl ?_)
          refine TL'.step (.on rfl rfl rfl b) (OpT.indexStr rfl (dl rfl rfl) Tryd.underlying9 rfl rfl g.1 g.2 ?_)
          obtain ⟨q, m, h⟩ := bind_some h
          refine TL'.step (.on rfl rfl rfl b) (OpT.callPA rfl (dl rfl rfl) Tryd.func74 rfl rfl (Args.cons rfl Args.nil) (CallR.nil (sy_digit_T K m)) ?_)
          refine TL'.step (.on rfl rfl rfl b) (OpT.not rfl (dl rfl rfl) rfl ?_)
          refine TL'.step (.on rfl rfl rfl a) (OpT.pickF rfl (dl rfl rfl) rfl b rfl ?_)
          refine sp rfl (OpT.pickT rfl (dl rfl rfl) rfl a rfl ?_)
          refine TL'.nil (tN ?_)
          rcases bif_some h with ⟨j, h⟩ | ⟨j, h⟩
          · refine T.condT rfl j ?_
            refine T.by_turn ?_ (sy_Name_j1_T K h)
            exact Turn.rp (.nil _) (.n _)
          · refine T.condF rfl j ?_
            refine T.skip (inBlock_normal (tN ?_))
            refine T.rL ?_
            refine sp rfl (OpT.int2 rfl rfl (dl rfl rfl) rfl rfl ?_)
            refine mv rfl rfl rfl rfl rfl ?_
            refine TL'.nil (tN ?_)
            refine TL.by_turn ?_ (ih x0 d (wI (f + (1 : Int))) h)
            exact Turn.rp (.cons rfl (.cons rfl (.cons rfl (.nil _)))) (.n _)
      · refine TL'.pU (.off _ _ _ _ rfl rfl rfl a) (dl rfl rfl) ?_
        refine TL'.pU (.off _ _ _ _ rfl rfl rfl a) (dl rfl rfl) ?_
        refine TL'.pU (.off _ _ _ _ rfl rfl rfl a) (dl rfl rfl) ?_
        refine TL'.pU (.gone _ _ _ rfl rfl rfl) (dl rfl rfl) ?_
        refine TL'.pU (.gone _ _ _ rfl rfl rfl) (dl rfl rfl) ?_
        refine TL'.pU (.gone _ _ _ rfl rfl rfl) (dl rfl rfl) ?_
        refine TL'.pU (.gone _ _ _ rfl rfl rfl) (dl rfl rfl) ?_
        refine TL'.pU (.gone _ _ _ rfl rfl rfl) (dl rfl rfl) ?_
        refine TL'.pU (.off _ _ _ _ rfl rfl rfl a) (dl rfl rfl) ?_
        refine sp rfl (OpT.pickF rfl (dl rfl rfl) rfl a rfl ?_)
        refine TL'.nil (tN ?_)
        refine T.condF rfl rfl ?_
        refine T.skip (inBlock_normal (tN ?_))
        refine T.rL ?_
        refine sp rfl (OpT.int2 rfl rfl (dl rfl rfl) rfl rfl ?_)
        refine mv rfl rfl rfl rfl rfl ?_
        refine TL'.nil (tN ?_)
        refine TL.by_turn ?_ (ih x0 d (wI (f + (1 : Int))) h)
        exact Turn.rp (.cons rfl (.cons rfl (.cons rfl (.nil _)))) (.n _)
    · refine T.condF rfl i ?_
      refine T.exit (thenS_exit (thenS_exit (inBlock_exit (tN ?_))))
      refine T.seq ?_
      refine T.rL ?_
      refine mv rfl rfl rfl rfl rfl ?_
      refine sp rfl (OpT.lenStr rfl (dl rfl rfl) Tryd.underlying9 rfl ?_)
      refine sp rfl (OpT.int2 rfl rfl (dl rfl rfl) rfl rfl ?_)
      refine mv rfl rfl rfl rfl rfl ?_
      rcases bif_some h with ⟨c, h⟩ | ⟨c, h⟩
      · refine TL'.step (.on rfl rfl rfl c) (OpT.move rfl (dl rfl rfl) rfl ?_)
        refine TL'.step (.on rfl rfl rfl c) (OpT.lenStr rfl (dl rfl rfl) Tryd.underlying9 rfl ?_)
        refine TL'.step (.on rfl rfl rfl c) (OpT.int2 rfl rfl (dl rfl rfl) rfl rfl ?_)
        refine sp rfl (OpT.pickT rfl (dl rfl rfl) rfl c rfl ?_)
        refine asg rfl rfl rfl rfl rfl ?_
        refine TL'.nil (tN ?_)
        refine T.ret ?_
        exact Fin.done (.cons _ _ _ _ (.tmp 2 _ rfl) .nil) (by cases h; exact ⟨rfl, rfl⟩)
      · refine TL'.pU (.off _ _ _ _ rfl rfl rfl c) (dl rfl rfl) ?_
        refine TL'.pU (.off _ _ _ _ rfl rfl rfl c) (dl rfl rfl) ?_
        refine TL'.pU (.off _ _ _ _ rfl rfl rfl c) (dl rfl rfl) ?_
        refine sp rfl (OpT.pickF rfl (dl rfl rfl) rfl c rfl ?_)
        refine asg rfl rfl rfl rfl rfl ?_
        refine TL'.nil (tN ?_)
        refine T.ret ?_
        exact Fin.done (.cons _ _ _ _ (.tmp 2 _ rfl) .nil) (by cases h; exact ⟨rfl, rfl⟩)
theorem sy_Name_T (K : Nat) {x0 : ByteArray} {r : Bool} (h : sy_Name K x0 = some r) : CallR Tryd.prog 56 [.str x0] [] (.bool r) := by
 refine CallT.intro Tryd.func56 rfl (nb rfl) ?_
 show T Tryd.prog 34 (Code.at [] (codeOf Tryd.f56)) ⟨paramSlots 0 [.str x0], []⟩ (sy_Name_q r)
 unfold sy_Name at h
 refine T.seq (T.rL ?_)
 refine aw rfl ?_
 refine TL'.nil (tN ?_)
 refine T.seq ?_
 refine T.seq (T.rL ?_)
 refine mw rfl ?_
 refine sp rfl (OpT.lenStr rfl (dk rfl) ul9 rfl ?_)
 refine mw rfl ?_
 refine TL'.nil (tN ?_)
 refine T.block ?_
 refine T.loop ?_
 refine TL.by_turn ?_ (sy_Name_l0_T K K x0 (x0.size : Int) (0 : Int) h)
 exact Turn.rp (.cons rfl (.cons rfl (.cons rfl (.nil _)))) (.n _)
abbrev sy_shaped_q (r : Bool) : Exit → St → Prop := retS Tryd.prog Tryd.f36 (fun y t => y = (.bool r) ∧ t = [])
abbrev sy_shaped_qs1111 (r : Bool) : Exit → St → Prop := thenS (fun s' => T Tryd.prog 104 (Code.at [1, 1, 1, 1] (codeOf Tryd.f36)) s' ((sy_shaped_q r))) ((sy_shaped_q r))
abbrev sy_shaped_qb0x1111 (r : Bool) : Exit → St → Prop := inBlockS 0 ((sy_shaped_qs1111 r))
abbrev sy_shaped_qs111010111011 (r : Bool) : Exit → St → Prop := thenS (fun s' => T Tryd.prog 104 (Code.at [1, 1, 1, 0, 1, 0, 1, 1, 1, 0, 1, 1] (codeOf Tryd.f36)) s' ((sy_shaped_qb0x1111 r))) ((sy_shaped_qb0x1111 r))
theorem sy_shaped_j0_T {r : Bool} (K : Nat) (j : Int) (x0 : aNd) (g : Arr4) (m : Int) (n : Int) (p : ByteArray) (q : Nat) (s : Nat) (h : sy_shaped_j0 K j x0 g m n p = some r) : T Tryd.prog 104 (Code.at [1, 1, 1, 1] (codeOf Tryd.f36)) ⟨[(1, .ptr q 0), (3, .ptr s 0), (4, .int .i64 j)], [.box q 42 [.d (.int .u8 x0.Op), .d (.int .u64 x0.S.a0), .d (.int .u64 x0.S.a1), .d (.int .u64 x0.S.a2), .d (.int .u64 x0.S.a3), .d (.sl false 1 (x0.L.map (cI .i64))), .d (.int .i64 x0.Lo), .d (.int .i64 x0.Hi), .d (.str x0.Name)], .box s 42 [.d (.int .u8 x0.Op), .d (.int .u64 g.a0), .d (.int .u64 g.a1), .d (.int .u64 g.a2), .d (.int .u64 g.a3), .d (.sl false 1 (([] : List Int).map (cI .i64))), .d (.int .i64 m), .d (.int .i64 n), .d (.str p)]]⟩ (sy_shaped_q r) := by
 unfold sy_shaped_j0 at h
 refine T.seq (T.rL ?_)
 refine mw rfl ?_
 refine sp rfl (OpT.int2 rfl rfl (dk rfl) rfl rfl ?_)
 refine mw rfl ?_
 rcases bif_some h with ⟨a, h⟩ | ⟨a, h⟩
 refine TL'.step (.on rfl rfl rfl a) (OpT.fP rfl (dk rfl) ul42 rfl i25 (by decide) rfl ?_)
 refine TL'.step (.on rfl rfl rfl a) (OpT.lBAgg (i := 0) (l := (Arr4.dc .u64 x0.S)) rfl (dk rfl) ul25 rfl i25 rfl rfl rfl rfl ?_)
 refine TL'.step (.on rfl rfl rfl a) (OpT.fP rfl (dk rfl) ul42 rfl i25 (by decide) rfl ?_)
 refine TL'.step (.on rfl rfl rfl a) (OpT.lBAgg (i := 1) (l := (Arr4.dc .u64 g)) rfl (dk rfl) ul25 rfl i25 rfl rfl rfl rfl ?_)
 refine TL'.step (.on rfl rfl rfl a) (OpT.intsEql (k := .u64) (xs := [x0.S.a0, x0.S.a1, x0.S.a2, x0.S.a3]) (ys := [g.a0, g.a1, g.a2, g.a3]) rfl (dk rfl) ul25 ul23 i23 Tryd.eqGuardType25 rfl rfl rfl rfl rfl rfl (Arr4.same_eq x0.S g) ?_)
 refine sp rfl (OpT.pickT rfl (dk rfl) rfl a rfl ?_)
 refine mw rfl ?_
 rcases bif_some h with ⟨b, h⟩ | ⟨b, h⟩
 refine TL'.step (.on rfl rfl rfl b) (OpT.fP rfl (dk rfl) ul42 rfl i3 (by decide) rfl ?_)
 refine TL'.step (.on rfl rfl rfl b) (OpT.lB (i := 0) rfl (dk rfl) ul3 rfl rfl rfl rfl ?_)
 refine TL'.step (.on rfl rfl rfl b) (OpT.fP rfl (dk rfl) ul42 rfl i3 (by decide) rfl ?_)
 refine TL'.step (.on rfl rfl rfl b) (OpT.lB (i := 1) rfl (dk rfl) ul3 rfl rfl rfl rfl ?_)
 refine TL'.step (.on rfl rfl rfl b) (OpT.int2 rfl rfl (dk rfl) rfl rfl ?_)
 refine sp rfl (OpT.pickT rfl (dk rfl) rfl b rfl ?_)
 refine mw rfl ?_
 rcases bif_some h with ⟨c, h⟩ | ⟨c, h⟩
 refine TL'.step (.on rfl rfl rfl c) (OpT.fP rfl (dk rfl) ul42 rfl i3 (by decide) rfl ?_)
 refine TL'.step (.on rfl rfl rfl c) (OpT.lB (i := 0) rfl (dk rfl) ul3 rfl rfl rfl rfl ?_)
 refine TL'.step (.on rfl rfl rfl c) (OpT.fP rfl (dk rfl) ul42 rfl i3 (by decide) rfl ?_)
 refine TL'.step (.on rfl rfl rfl c) (OpT.lB (i := 1) rfl (dk rfl) ul3 rfl rfl rfl rfl ?_)
 refine TL'.step (.on rfl rfl rfl c) (OpT.int2 rfl rfl (dk rfl) rfl rfl ?_)
 refine sp rfl (OpT.pickT rfl (dk rfl) rfl c rfl ?_)
 refine mw rfl ?_
 rcases bif_some h with ⟨f, h⟩ | ⟨f, h⟩
 refine TL'.step (.on rfl rfl rfl f) (OpT.fP rfl (dk rfl) ul42 rfl i9 (by decide) rfl ?_)
 refine TL'.step (.on rfl rfl rfl f) (OpT.lB (i := 0) rfl (dk rfl) ul9 rfl rfl rfl rfl ?_)
 refine TL'.step (.on rfl rfl rfl f) (OpT.fP rfl (dk rfl) ul42 rfl i9 (by decide) rfl ?_)
 refine TL'.step (.on rfl rfl rfl f) (OpT.lB (i := 1) rfl (dk rfl) ul9 rfl rfl rfl rfl ?_)
 refine TL'.step (.on rfl rfl rfl f) (OpT.str_eql rfl (dk rfl) rfl rfl ?_)
 refine sp rfl (OpT.pickT rfl (dk rfl) rfl f rfl ?_)
 refine aw rfl ?_
 refine TL'.nil (tN ?_)
 refine T.ret ?_
 exact Fin.done (.cons _ _ _ _ (.tmp 2 _ rfl) .nil) (by cases h; exact ⟨rfl, rfl⟩)
 refine TL'.pU (.off _ _ _ _ rfl rfl rfl f) (dk rfl) ?_
 refine TL'.pU (.off _ _ _ _ rfl rfl rfl f) (dk rfl) ?_
 refine TL'.pU (.off _ _ _ _ rfl rfl rfl f) (dk rfl) ?_
 refine TL'.pU (.off _ _ _ _ rfl rfl rfl f) (dk rfl) ?_
 refine TL'.pU (.off _ _ _ _ rfl rfl rfl f) (dk rfl) ?_
 refine sp rfl (OpT.pickF rfl (dk rfl) rfl f rfl ?_)
 refine aw rfl ?_
 refine TL'.nil (tN ?_)
 refine T.ret ?_
 exact Fin.done (.cons _ _ _ _ (.tmp 2 _ rfl) .nil) (by cases h; exact ⟨rfl, rfl⟩)
 refine TL'.pU (.off _ _ _ _ rfl rfl rfl c) (dk rfl) ?_
 refine TL'.pU (.off _ _ _ _ rfl rfl rfl c) (dk rfl) ?_
 refine TL'.pU (.off _ _ _ _ rfl rfl rfl c) (dk rfl) ?_
 refine TL'.pU (.off _ _ _ _ rfl rfl rfl c) (dk rfl) ?_
 refine TL'.pU (.off _ _ _ _ rfl rfl rfl c) (dk rfl) ?_
 refine sp rfl (OpT.pickF rfl (dk rfl) rfl c rfl ?_)
 refine mw rfl ?_
 refine TL'.pU (.off _ _ _ _ rfl rfl rfl rfl) (dk rfl) ?_
 refine TL'.pU (.off _ _ _ _ rfl rfl rfl rfl) (dk rfl) ?_
 refine TL'.pU (.off _ _ _ _ rfl rfl rfl rfl) (dk rfl) ?_
 refine TL'.pU (.off _ _ _ _ rfl rfl rfl rfl) (dk rfl) ?_
 refine TL'.pU (.off _ _ _ _ rfl rfl rfl rfl) (dk rfl) ?_
 refine sp rfl (OpT.pickF rfl (dk rfl) rfl rfl rfl ?_)
 refine aw rfl ?_
 refine TL'.nil (tN ?_)
 refine T.ret ?_
 exact Fin.done (.cons _ _ _ _ (.tmp 2 _ rfl) .nil) (by cases h; exact ⟨rfl, rfl⟩)
 refine TL'.pU (.off _ _ _ _ rfl rfl rfl b) (dk rfl) ?_
 refine TL'.pU (.off _ _ _ _ rfl rfl rfl b) (dk rfl) ?_
 refine TL'.pU (.off _ _ _ _ rfl rfl rfl b) (dk rfl) ?_
 refine TL'.pU (.off _ _ _ _ rfl rfl rfl b) (dk rfl) ?_
 refine TL'.pU (.off _ _ _ _ rfl rfl rfl b) (dk rfl) ?_
 refine sp rfl (OpT.pickF rfl (dk rfl) rfl b rfl ?_)
 refine mw rfl ?_
 refine TL'.pU (.off _ _ _ _ rfl rfl rfl rfl) (dk rfl) ?_
 refine TL'.pU (.off _ _ _ _ rfl rfl rfl rfl) (dk rfl) ?_
 refine TL'.pU (.off _ _ _ _ rfl rfl rfl rfl) (dk rfl) ?_
 refine TL'.pU (.off _ _ _ _ rfl rfl rfl rfl) (dk rfl) ?_
 refine TL'.pU (.off _ _ _ _ rfl rfl rfl rfl) (dk rfl) ?_
 refine sp rfl (OpT.pickF rfl (dk rfl) rfl rfl rfl ?_)
 refine mw rfl ?_
 refine TL'.pU (.off _ _ _ _ rfl rfl rfl rfl) (dk rfl) ?_
 refine TL'.pU (.off _ _ _ _ rfl rfl rfl rfl) (dk rfl) ?_
 refine TL'.pU (.off _ _ _ _ rfl rfl rfl rfl) (dk rfl) ?_
 refine TL'.pU (.off _ _ _ _ rfl rfl rfl rfl) (dk rfl) ?_
 refine TL'.pU (.off _ _ _ _ rfl rfl rfl rfl) (dk rfl) ?_
 refine sp rfl (OpT.pickF rfl (dk rfl) rfl rfl rfl ?_)
 refine aw rfl ?_
 refine TL'.nil (tN ?_)
 refine T.ret ?_
 exact Fin.done (.cons _ _ _ _ (.tmp 2 _ rfl) .nil) (by cases h; exact ⟨rfl, rfl⟩)
 refine TL'.pU (.off _ _ _ _ rfl rfl rfl a) (dk rfl) ?_
 refine TL'.pU (.off _ _ _ _ rfl rfl rfl a) (dk rfl) ?_
 refine TL'.pU (.off _ _ _ _ rfl rfl rfl a) (dk rfl) ?_
 refine TL'.pU (.off _ _ _ _ rfl rfl rfl a) (dk rfl) ?_
 refine TL'.pU (.off _ _ _ _ rfl rfl rfl a) (dk rfl) ?_
 refine sp rfl (OpT.pickF rfl (dk rfl) rfl a rfl ?_)
 refine mw rfl ?_
 refine TL'.pU (.off _ _ _ _ rfl rfl rfl rfl) (dk rfl) ?_
 refine TL'.pU (.off _ _ _ _ rfl rfl rfl rfl) (dk rfl) ?_
 refine TL'.pU (.off _ _ _ _ rfl rfl rfl rfl) (dk rfl) ?_
 refine TL'.pU (.off _ _ _ _ rfl rfl rfl rfl) (dk rfl) ?_
 refine TL'.pU (.off _ _ _ _ rfl rfl rfl rfl) (dk rfl) ?_
 refine sp rfl (OpT.pickF rfl (dk rfl) rfl rfl rfl ?_)
 refine mw rfl ?_
 refine TL'.pU (.off _ _ _ _ rfl rfl rfl rfl) (dk rfl) ?_
 refine TL'.pU (.off _ _ _ _ rfl rfl rfl rfl) (dk rfl) ?_
 refine TL'.pU (.off _ _ _ _ rfl rfl rfl rfl) (dk rfl) ?_
 refine TL'.pU (.off _ _ _ _ rfl rfl rfl rfl) (dk rfl) ?_
 refine TL'.pU (.off _ _ _ _ rfl rfl rfl rfl) (dk rfl) ?_
 refine sp rfl (OpT.pickF rfl (dk rfl) rfl rfl rfl ?_)
 refine mw rfl ?_
 refine TL'.pU (.off _ _ _ _ rfl rfl rfl rfl) (dk rfl) ?_
 refine TL'.pU (.off _ _ _ _ rfl rfl rfl rfl) (dk rfl) ?_
 refine TL'.pU (.off _ _ _ _ rfl rfl rfl rfl) (dk rfl) ?_
 refine TL'.pU (.off _ _ _ _ rfl rfl rfl rfl) (dk rfl) ?_
 refine TL'.pU (.off _ _ _ _ rfl rfl rfl rfl) (dk rfl) ?_
 refine sp rfl (OpT.pickF rfl (dk rfl) rfl rfl rfl ?_)
 refine aw rfl ?_
 refine TL'.nil (tN ?_)
 refine T.ret ?_
 exact Fin.done (.cons _ _ _ _ (.tmp 2 _ rfl) .nil) (by cases h; exact ⟨rfl, rfl⟩)
theorem sy_shaped_j1_T {r : Bool} (K : Nat) (h : sy_shaped_j1 K = some r) : T Tryd.prog 104 (Code.at [1, 1, 1, 0, 1, 0, 1, 1, 1, 0, 1, 0, 1, 0] (codeOf Tryd.f36)) ⟨[], []⟩ (sy_shaped_qs111010111011 r) := by
 unfold sy_shaped_j1 at h
 refine T.seq (T.rL ?_)
 refine aw rfl ?_
 refine TL'.nil (tN ?_)
 refine T.ret (thenS_ret (inBlock_ret (thenS_ret ?_)))
 exact Fin.done (.cons _ _ _ _ (.tmp 2 _ rfl) .nil) (by cases h; exact ⟨rfl, rfl⟩)
theorem sy_shaped_j2_T {r : Bool} (K : Nat) (b : Int) (x0 : aNd) (a : Arr4) (f : Nat) (g : Nat) (h : sy_shaped_j2 K b x0 a = some r) : T Tryd.prog 104 (Code.at [1, 1, 1, 0, 1, 0, 1, 1, 1, 0, 1, 0, 1, 1] (codeOf Tryd.f36)) ⟨[(1, .ptr f 0), (3, .ptr g 0), (4, .int .i64 b)], [.box f 42 [.d (.int .u8 x0.Op), .d (.int .u64 x0.S.a0), .d (.int .u64 x0.S.a1), .d (.int .u64 x0.S.a2), .d (.int .u64 x0.S.a3), .d (.sl false 1 (x0.L.map (cI .i64))), .d (.int .i64 x0.Lo), .d (.int .i64 x0.Hi), .d (.str x0.Name)], .box g 42 [.d (.int .u8 x0.Op), .d (.int .u64 a.a0), .d (.int .u64 a.a1), .d (.int .u64 a.a2), .d (.int .u64 a.a3), .d (.sl false 1 (([] : List Int).map (cI .i64))), .d (.int .i64 x0.Lo), .d (.int .i64 x0.Hi), .d (.str (⟨#[]⟩ : ByteArray))]]⟩ (sy_shaped_qs111010111011 r) := by
 unfold sy_shaped_j2 at h
 refine T.skip (tN ?_)
 refine T.rL ?_
 refine mw rfl ?_
 refine sp rfl (OpT.int2 rfl rfl (dk rfl) rfl rfl ?_)
 refine aw rfl ?_
 refine TL'.nil (inBlock_normal (tN ?_))
 refine T.by_turn ?_ (sy_shaped_j0_T K (wI (b - (1 : Int))) x0 a x0.Lo x0.Hi (⟨#[]⟩ : ByteArray) f g h)
 exact Turn.rp (.cons rfl (.cons rfl (.cons rfl (.nil _)))) (.c .z (.c .z (.n _)))
theorem sy_shaped_j3_T {r : Bool} (K : Nat) (g : Int) (x0 : aNd) (s : Bool) (a : Arr4) (b : Nat) (f : Nat) (h : sy_shaped_j3 K g x0 s a = some r) : T Tryd.prog 104 (Code.at [1, 1, 1, 0, 1, 0, 1, 1, 1, 1, 1] (codeOf Tryd.f36)) ⟨[(1, .ptr b 0), (3, .ptr f 0), (4, .int .i64 g), (12, .int .u8 x0.Op), (58, .bool s)], [.box b 42 [.d (.int .u8 x0.Op), .d (.int .u64 x0.S.a0), .d (.int .u64 x0.S.a1), .d (.int .u64 x0.S.a2), .d (.int .u64 x0.S.a3), .d (.sl false 1 (x0.L.map (cI .i64))), .d (.int .i64 x0.Lo), .d (.int .i64 x0.Hi), .d (.str x0.Name)], .box f 42 [.d (.int .u8 x0.Op), .d (.int .u64 a.a0), .d (.int .u64 a.a1), .d (.int .u64 a.a2), .d (.int .u64 a.a3), .d (.sl false 1 (([] : List Int).map (cI .i64))), .d (.int .i64 (0 : Int)), .d (.int .i64 (0 : Int)), .d (.str (⟨#[]⟩ : ByteArray))]]⟩ (sy_shaped_qb0x1111 r) := by
 unfold sy_shaped_j3 at h
 rcases bif_some h with ⟨j, h⟩ | ⟨j, h⟩
 refine T.condT rfl j ?_
 refine T.seq ?_
 refine T.seq (T.rL ?_)
 refine mw rfl ?_
 refine sp rfl (OpT.int2 rfl rfl (dk rfl) rfl rfl ?_)
 refine TL'.nil (tN ?_)
 rcases bif_some h with ⟨l, h⟩ | ⟨l, h⟩
 refine T.condT rfl l ?_
 refine T.seq (T.rL ?_)
 refine aw rfl ?_
 refine TL'.nil (tN ?_)
 refine T.ret (thenS_ret (inBlock_ret (thenS_ret ?_)))
 exact Fin.done (.cons _ _ _ _ (.tmp 2 _ rfl) .nil) (by cases h; exact ⟨rfl, rfl⟩)
 refine T.condF rfl l ?_
 refine T.skip (tN ?_)
 refine T.rL ?_
 refine aw rfl ?_
 refine TL'.nil (inBlock_normal (tN ?_))
 refine T.by_turn ?_ (sy_shaped_j0_T K (0 : Int) x0 a (0 : Int) (0 : Int) (⟨#[]⟩ : ByteArray) b f h)
 exact Turn.rp (.cons rfl (.cons rfl (.cons rfl (.nil _)))) (.c .z (.c .z (.n _)))
 refine T.condF rfl j ?_
 refine T.seq (T.rL ?_)
 refine sp rfl (OpT.int2 rfl rfl (dk rfl) rfl rfl ?_)
 refine aw rfl ?_
 refine TL'.nil (tN ?_)
 rcases bif_some h with ⟨m, h⟩ | ⟨m, h⟩
 refine T.condT rfl m ?_
 refine T.seq (T.rL ?_)
 refine sp rfl (OpT.fP rfl (dk rfl) ul42 rfl i9 (by decide) rfl ?_)
 refine sp rfl (OpT.lB (i := 0) rfl (dk rfl) ul9 rfl rfl rfl rfl ?_)
 refine sp rfl (OpT.fP rfl (dk rfl) ul42 rfl i9 (by decide) rfl ?_)
 refine sp rfl (OpT.sT (i := 1) (cells' := [.d (.int .u8 x0.Op), .d (.int .u64 a.a0), .d (.int .u64 a.a1), .d (.int .u64 a.a2), .d (.int .u64 a.a3), .d (.sl false 1 (([] : List Int).map (cI .i64))), .d (.int .i64 (0 : Int)), .d (.int .i64 (0 : Int)), .d (.str x0.Name)]) rfl rfl i9 rfl rfl rfl (nb rfl) rfl ?_)
 refine TL'.nil (tN (T.seq (T.rL ?_)))
 refine sp rfl (OpT.fP rfl (dk rfl) ul42 rfl i9 (by decide) rfl ?_)
 refine sp rfl (OpT.lB (i := 0) rfl (dk rfl) ul9 rfl rfl rfl rfl ?_)
 obtain ⟨v, u, h⟩ := bind_some h
 refine sp rfl (OpT.callPA rfl (dk rfl) Tryd.func56 rfl rfl (Args.cons rfl Args.nil) (CallR.nil (sy_Name_T K u)) ?_)
 refine sp rfl (OpT.not rfl (dk rfl) rfl ?_)
 refine TL'.nil (tN ?_)
 rcases bif_some h with ⟨p, h⟩ | ⟨p, h⟩
 refine T.condT rfl p ?_
 refine T.seq (T.rL ?_)
 refine aw rfl ?_
 refine TL'.nil (tN ?_)
 refine T.ret (inBlock_ret (thenS_ret ?_))
 exact Fin.done (.cons _ _ _ _ (.tmp 2 _ rfl) .nil) (by cases h; exact ⟨rfl, rfl⟩)
 refine T.condF rfl p ?_
 refine T.skip (inBlock_normal (tN ?_))
 refine T.by_turn ?_ (sy_shaped_j0_T K g x0 a (0 : Int) (0 : Int) x0.Name b f h)
 exact Turn.rp (.cons rfl (.cons rfl (.cons rfl (.nil _)))) (.c .z (.c .z (.n _)))
 refine T.condF rfl m ?_
 refine T.seq (T.rL ?_)
 refine sp rfl (OpT.int2 rfl rfl (dk rfl) rfl rfl ?_)
 refine aw rfl ?_
 refine TL'.nil (tN ?_)
 rcases bif_some h with ⟨q, h⟩ | ⟨q, h⟩
 refine T.condT rfl q ?_
 refine T.skip (inBlock_normal (tN ?_))
 refine T.by_turn ?_ (sy_shaped_j0_T K g x0 a (0 : Int) (0 : Int) (⟨#[]⟩ : ByteArray) b f h)
 exact Turn.rp (.cons rfl (.cons rfl (.cons rfl (.nil _)))) (.c .z (.c .z (.n _)))
 refine T.condF rfl q ?_
 refine T.seq (T.rL ?_)
 refine aw rfl ?_
 refine TL'.nil (tN ?_)
 refine T.ret (inBlock_ret (thenS_ret ?_))
 exact Fin.done (.cons _ _ _ _ (.tmp 2 _ rfl) .nil) (by cases h; exact ⟨rfl, rfl⟩)
theorem sy_shaped_T (K : Nat) {x0 : aNd} {r : Bool} (h : sy_shaped K x0 = some r) : CallR Tryd.prog 36 [.agg [.int .u8 x0.Op, .int .u64 x0.S.a0, .int .u64 x0.S.a1, .int .u64 x0.S.a2, .int .u64 x0.S.a3, .sl false 1 (x0.L.map (cI .i64)), .int .i64 x0.Lo, .int .i64 x0.Hi, .str x0.Name]] [] (.bool r) := by
 refine CallT.intro Tryd.func36 rfl (nb rfl) ?_
 show T Tryd.prog 104 (Code.at [] (codeOf Tryd.f36)) ⟨paramSlots 0 [.agg [.int .u8 x0.Op, .int .u64 x0.S.a0, .int .u64 x0.S.a1, .int .u64 x0.S.a2, .int .u64 x0.S.a3, .sl false 1 (x0.L.map (cI .i64)), .int .i64 x0.Lo, .int .i64 x0.Hi, .str x0.Name]], []⟩ (sy_shaped_q r)
 unfold sy_shaped at h
 refine T.seq (T.rL ?_)
 refine sp rfl (OpT.boxAgg rfl (dk rfl) rfl (fun j => ?_))
 refine aw rfl ?_
 refine TL'.nil (tN (T.seq (T.rL ?_)))
 refine sp rfl (OpT.fP rfl (dk rfl) ul42 rfl i5 (by decide) rfl ?_)
 refine sp rfl (OpT.lB (i := 0) rfl (dk rfl) ul5 rfl rfl rfl rfl ?_)
 refine sp rfl (OpT.thenTurn (OpT.build (l := [.int .u8 x0.Op, .int .u64 (Arr4.mk 0 0 0 0).a0, .int .u64 (Arr4.mk 0 0 0 0).a1, .int .u64 (Arr4.mk 0 0 0 0).a2, .int .u64 (Arr4.mk 0 0 0 0).a3, .ex (.slice none 0 0), .int .i64 (0 : Int), .int .i64 (0 : Int), .str (⟨#[]⟩ : ByteArray)]) rfl (dk rfl) (built_struct (pl := [(0, 1), (1, 4), (5, 1), (6, 1), (7, 1), (8, 1)]) ul42 i42 rfl) (all1 rfl) rfl rfl rfl) (Turn.weakSlotP 7 (l := [.int .u8 x0.Op, .int .u64 (Arr4.mk 0 0 0 0).a0, .int .u64 (Arr4.mk 0 0 0 0).a1, .int .u64 (Arr4.mk 0 0 0 0).a2, .int .u64 (Arr4.mk 0 0 0 0).a3, .ex (.slice none 0 0), .int .i64 (0 : Int), .int .i64 (0 : Int), .str (⟨#[]⟩ : ByteArray)]) (l' := [.int .u8 x0.Op, .int .u64 (Arr4.mk 0 0 0 0).a0, .int .u64 (Arr4.mk 0 0 0 0).a1, .int .u64 (Arr4.mk 0 0 0 0).a2, .int .u64 (Arr4.mk 0 0 0 0).a3, .sl false 1 (([] : List Int).map (cI .i64)), .int .i64 (0 : Int), .int .i64 (0 : Int), .str (⟨#[]⟩ : ByteArray)]) (.cons (.same _) (.cons (.same _) (.cons (.same _) (.cons (.same _) (.cons (.same _) (.cons (.nil _ _) (.cons (.same _) (.cons (.same _) (.cons (.same _) (.refl _))))))))))) ?_)
 refine sp rfl (OpT.alloc' rfl (dk rfl) i42 rfl (fun b => ?_))
 refine sp rfl (OpT.storeAggTo (i := 0) (cells' := [.d (.int .u8 x0.Op), .d (.int .u64 (Arr4.mk 0 0 0 0).a0), .d (.int .u64 (Arr4.mk 0 0 0 0).a1), .d (.int .u64 (Arr4.mk 0 0 0 0).a2), .d (.int .u64 (Arr4.mk 0 0 0 0).a3), .d (.sl false 1 (([] : List Int).map (cI .i64))), .d (.int .i64 (0 : Int)), .d (.int .i64 (0 : Int)), .d (.str (⟨#[]⟩ : ByteArray))]) rfl rfl i42 rfl rfl rfl rfl (nb rfl) rfl ?_)
 refine TL'.nil (tN (T.seq (T.rL ?_)))
 refine sp rfl (OpT.fP rfl (dk rfl) ul42 rfl i40 (by decide) rfl ?_)
 refine sp rfl (OpT.lB (i := 1) rfl (dk rfl) ul40 rfl rfl rfl rfl ?_)
 refine sp rfl (OpT.lenSlM (xs := x0.L) (f := (cI .i64)) rfl (dk rfl) ul40 rfl ?_)
 refine aw rfl ?_
 refine TL'.nil (tN ?_)
 refine T.seq ?_
 refine T.seq (T.rL ?_)
 refine sp rfl (OpT.fP rfl (dk rfl) ul42 rfl i5 (by decide) rfl ?_)
 refine sp rfl (OpT.lB (i := 1) rfl (dk rfl) ul5 rfl rfl rfl rfl ?_)
 refine TL'.nil (tN ?_)
 refine T.block ?_
 refine T.seq (T.rL ?_)
 refine sp rfl (OpT.int2 rfl rfl (dk rfl) rfl rfl ?_)
 refine aw rfl ?_
 refine TL'.nil (tN ?_)
 rcases bif_some h with ⟨q, h⟩ | ⟨q, h⟩
 refine T.condT rfl q ?_
 refine T.seq (T.rL ?_)
 refine sp rfl (OpT.fP rfl (dk rfl) ul42 rfl i25 (by decide) rfl ?_)
 refine sp rfl (OpT.lBAgg (i := 1) (l := (Arr4.dc .u64 x0.S)) rfl (dk rfl) ul25 rfl i25 rfl rfl rfl rfl ?_)
 refine sp rfl (OpT.fP rfl (dk rfl) ul42 rfl i25 (by decide) rfl ?_)
 refine sp rfl (OpT.storeAggTo (i := 0) (cells' := [.d (.int .u8 x0.Op), .d (.int .u64 x0.S.a0), .d (.int .u64 x0.S.a1), .d (.int .u64 x0.S.a2), .d (.int .u64 x0.S.a3), .d (.sl false 1 (([] : List Int).map (cI .i64))), .d (.int .i64 (0 : Int)), .d (.int .i64 (0 : Int)), .d (.str (⟨#[]⟩ : ByteArray))]) rfl rfl i25 rfl rfl rfl rfl (nb rfl) rfl ?_)
 refine TL'.nil (tN (T.seq (T.rL ?_)))
 refine sp rfl (OpT.fP rfl (dk rfl) ul42 rfl i25 (by decide) rfl ?_)
 refine sp rfl (OpT.lBAgg (i := 1) (l := (Arr4.dc .u64 x0.S)) rfl (dk rfl) ul25 rfl i25 rfl rfl rfl rfl ?_)
 refine sp rfl (OpT.build (l := (Arr4.dc .u64 (Arr4.mk 0 0 0 0))) rfl (dk rfl) (built_arr ul25 i25 i23) (all1 rfl) rfl rfl ?_)
 refine sp rfl (OpT.intsEql (k := .u64) (xs := [x0.S.a0, x0.S.a1, x0.S.a2, x0.S.a3]) (ys := [(Arr4.mk 0 0 0 0).a0, (Arr4.mk 0 0 0 0).a1, (Arr4.mk 0 0 0 0).a2, (Arr4.mk 0 0 0 0).a3]) rfl (dk rfl) ul25 ul23 i23 Tryd.eqGuardType25 rfl rfl rfl rfl rfl rfl (Arr4.same_eq x0.S (Arr4.mk 0 0 0 0)) ?_)
 refine TL'.nil (tN ?_)
 rcases bif_some h with ⟨v, h⟩ | ⟨v, h⟩
 refine T.condT rfl v ?_
 refine T.seq (T.rL ?_)
 refine aw rfl ?_
 refine TL'.nil (tN ?_)
 refine T.ret (inBlock_ret (thenS_ret ?_))
 exact Fin.done (.cons _ _ _ _ (.tmp 2 _ rfl) .nil) (by cases h; exact ⟨rfl, rfl⟩)
 refine T.condF rfl v ?_
 refine T.skip (inBlock_normal (tN ?_))
 refine T.by_turn ?_ (sy_shaped_j0_T K (x0.L.length : Int) x0 x0.S (0 : Int) (0 : Int) (⟨#[]⟩ : ByteArray) j b h)
 exact Turn.rp (.cons rfl (.cons rfl (.cons rfl (.nil _)))) (.c (.s .z) (.c .z (.n _)))
 refine T.condF rfl q ?_
 refine T.seq (T.rL ?_)
 refine sp rfl (OpT.int2 rfl rfl (dk rfl) rfl rfl ?_)
 refine aw rfl ?_
 refine TL'.nil (tN ?_)
 rcases bif_some h with ⟨w, h⟩ | ⟨w, h⟩
 refine T.condT rfl w ?_
 refine T.seq ?_
 refine DG.start ?_
 refine DG.step (c := ⟨some 24, .ptr j (0 + 6), [(1, .ptr j 0)], [], []⟩) (fun t hm => One.step rfl (.free rfl) (OpT.fP rfl (dk rfl) ul42 rfl i3 (by decide) hm.s0 rfl)) (Ct.mo rfl rfl) ?_
 refine DG.step (c := ⟨some 25, .int .i64 x0.Lo, [(24, .ptr j (0 + 6))], [(1, .box j 42 [.d (.int .u8 x0.Op), .d (.int .u64 x0.S.a0), .d (.int .u64 x0.S.a1), .d (.int .u64 x0.S.a2), .d (.int .u64 x0.S.a3), .d (.sl false 1 (x0.L.map (cI .i64))), .d (.int .i64 x0.Lo), .d (.int .i64 x0.Hi), .d (.str x0.Name)])], []⟩) (fun t hm => One.step rfl (.free rfl) (OpT.lB (i := 1) rfl (dk rfl) ul3 rfl hm.s0 hm.o0 rfl rfl)) (Ct.mo rfl rfl) ?_
 refine DG.step (c := ⟨some 26, .ptr j (0 + 7), [(1, .ptr j 0)], [], []⟩) (fun t hm => One.step rfl (.free rfl) (OpT.fP rfl (dk rfl) ul42 rfl i3 (by decide) hm.s0 rfl)) (Ct.mo rfl rfl) ?_
 refine DG.step (c := ⟨some 27, .int .i64 x0.Hi, [(26, .ptr j (0 + 7))], [(1, .box j 42 [.d (.int .u8 x0.Op), .d (.int .u64 x0.S.a0), .d (.int .u64 x0.S.a1), .d (.int .u64 x0.S.a2), .d (.int .u64 x0.S.a3), .d (.sl false 1 (x0.L.map (cI .i64))), .d (.int .i64 x0.Lo), .d (.int .i64 x0.Hi), .d (.str x0.Name)])], []⟩) (fun t hm => One.step rfl (.free rfl) (OpT.lB (i := 1) rfl (dk rfl) ul3 rfl hm.s0 hm.o0 rfl rfl)) (Ct.mo rfl rfl) ?_
 refine DG.step (c := ⟨some 28, .ptr b (0 + 6), [(3, .ptr b 0)], [], []⟩) (fun t hm => One.step rfl (.free rfl) (OpT.fP rfl (dk rfl) ul42 rfl i3 (by decide) hm.s0 rfl)) (Ct.mo rfl rfl) ?_
 refine DG.step (c := ⟨none, .any, [(28, .ptr b (0 + 6)), (25, .int .i64 x0.Lo)], [(0, .box b 42 [.d (.int .u8 x0.Op), .d (.int .u64 (Arr4.mk 0 0 0 0).a0), .d (.int .u64 (Arr4.mk 0 0 0 0).a1), .d (.int .u64 (Arr4.mk 0 0 0 0).a2), .d (.int .u64 (Arr4.mk 0 0 0 0).a3), .d (.sl false 1 (([] : List Int).map (cI .i64))), .d (.int .i64 (0 : Int)), .d (.int .i64 (0 : Int)), .d (.str (⟨#[]⟩ : ByteArray))])], [(0, .box b 42 [.d (.int .u8 x0.Op), .d (.int .u64 (Arr4.mk 0 0 0 0).a0), .d (.int .u64 (Arr4.mk 0 0 0 0).a1), .d (.int .u64 (Arr4.mk 0 0 0 0).a2), .d (.int .u64 (Arr4.mk 0 0 0 0).a3), .d (.sl false 1 (([] : List Int).map (cI .i64))), .d (.int .i64 x0.Lo), .d (.int .i64 (0 : Int)), .d (.str (⟨#[]⟩ : ByteArray))])]⟩) (fun t hm => One.step rfl (.free rfl) (OpT.sT (i := 0) (cells' := [.d (.int .u8 x0.Op), .d (.int .u64 (Arr4.mk 0 0 0 0).a0), .d (.int .u64 (Arr4.mk 0 0 0 0).a1), .d (.int .u64 (Arr4.mk 0 0 0 0).a2), .d (.int .u64 (Arr4.mk 0 0 0 0).a3), .d (.sl false 1 (([] : List Int).map (cI .i64))), .d (.int .i64 x0.Lo), .d (.int .i64 (0 : Int)), .d (.str (⟨#[]⟩ : ByteArray))]) rfl rfl i3 hm.s0 hm.s1 hm.o0 (nb rfl) rfl rfl)) (Ct.mo rfl rfl) ?_
 refine DG.step (c := ⟨some 29, .ptr b (0 + 7), [(3, .ptr b 0)], [], []⟩) (fun t hm => One.step rfl (.free rfl) (OpT.fP rfl (dk rfl) ul42 rfl i3 (by decide) hm.s0 rfl)) (Ct.mo rfl rfl) ?_
 refine DG.step (c := ⟨none, .any, [(29, .ptr b (0 + 7)), (27, .int .i64 x0.Hi)], [(0, .box b 42 [.d (.int .u8 x0.Op), .d (.int .u64 (Arr4.mk 0 0 0 0).a0), .d (.int .u64 (Arr4.mk 0 0 0 0).a1), .d (.int .u64 (Arr4.mk 0 0 0 0).a2), .d (.int .u64 (Arr4.mk 0 0 0 0).a3), .d (.sl false 1 (([] : List Int).map (cI .i64))), .d (.int .i64 x0.Lo), .d (.int .i64 (0 : Int)), .d (.str (⟨#[]⟩ : ByteArray))])], [(0, .box b 42 [.d (.int .u8 x0.Op), .d (.int .u64 (Arr4.mk 0 0 0 0).a0), .d (.int .u64 (Arr4.mk 0 0 0 0).a1), .d (.int .u64 (Arr4.mk 0 0 0 0).a2), .d (.int .u64 (Arr4.mk 0 0 0 0).a3), .d (.sl false 1 (([] : List Int).map (cI .i64))), .d (.int .i64 x0.Lo), .d (.int .i64 x0.Hi), .d (.str (⟨#[]⟩ : ByteArray))])]⟩) (fun t hm => One.step rfl (.free rfl) (OpT.sT (i := 0) (cells' := [.d (.int .u8 x0.Op), .d (.int .u64 (Arr4.mk 0 0 0 0).a0), .d (.int .u64 (Arr4.mk 0 0 0 0).a1), .d (.int .u64 (Arr4.mk 0 0 0 0).a2), .d (.int .u64 (Arr4.mk 0 0 0 0).a3), .d (.sl false 1 (([] : List Int).map (cI .i64))), .d (.int .i64 x0.Lo), .d (.int .i64 x0.Hi), .d (.str (⟨#[]⟩ : ByteArray))]) rfl rfl i3 hm.s0 hm.s1 hm.o0 (nb rfl) rfl rfl)) (Ct.mo rfl rfl) ?_
 refine DG.fin (s1 := ⟨[(1, .ptr j 0), (3, .ptr b 0), (4, .int .i64 (x0.L.length : Int))], [.box b 42 [.d (.int .u8 x0.Op), .d (.int .u64 (Arr4.mk 0 0 0 0).a0), .d (.int .u64 (Arr4.mk 0 0 0 0).a1), .d (.int .u64 (Arr4.mk 0 0 0 0).a2), .d (.int .u64 (Arr4.mk 0 0 0 0).a3), .d (.sl false 1 (([] : List Int).map (cI .i64))), .d (.int .i64 x0.Lo), .d (.int .i64 x0.Hi), .d (.str (⟨#[]⟩ : ByteArray))], .box j 42 [.d (.int .u8 x0.Op), .d (.int .u64 x0.S.a0), .d (.int .u64 x0.S.a1), .d (.int .u64 x0.S.a2), .d (.int .u64 x0.S.a3), .d (.sl false 1 (x0.L.map (cI .i64))), .d (.int .i64 x0.Lo), .d (.int .i64 x0.Hi), .d (.str x0.Name)]]⟩) (ms := [0, 1, 0, 4, 3, 19, 63, 127]) TrydMixed rfl (by kernel_rfl) (by kernel_rfl) (by kernel_rfl) (.cons rfl (.cons rfl (.cons rfl (.nil _)))) rfl (fun u hu => (tN (T.by_turn hu ?_)))
 refine T.seq ?_
 refine T.seq (T.rL ?_)
 refine sp rfl (OpT.fP rfl (dk rfl) ul42 rfl i3 (by decide) rfl ?_)
 refine sp rfl (OpT.lB (i := 1) rfl (dk rfl) ul3 rfl rfl rfl rfl ?_)
 refine sp rfl (OpT.int2 rfl rfl (dk rfl) rfl rfl ?_)
 refine mw rfl ?_
 rcases bif_some h with ⟨m, h⟩ | ⟨m, h⟩
 refine TL'.pU (.off _ _ _ _ rfl rfl rfl m) (dk rfl) ?_
 refine TL'.pU (.off _ _ _ _ rfl rfl rfl m) (dk rfl) ?_
 refine TL'.pU (.off _ _ _ _ rfl rfl rfl m) (dk rfl) ?_
 refine sp rfl (OpT.pickT rfl (dk rfl) rfl m rfl ?_)
 refine mw rfl ?_
 refine TL'.pU (.off _ _ _ _ rfl rfl rfl rfl) (dk rfl) ?_
 refine TL'.pU (.off _ _ _ _ rfl rfl rfl rfl) (dk rfl) ?_
 refine TL'.pU (.off _ _ _ _ rfl rfl rfl rfl) (dk rfl) ?_
 refine TL'.pU (.off _ _ _ _ rfl rfl rfl rfl) (dk rfl) ?_
 refine TL'.pU (.gone _ _ _ rfl rfl rfl) (dk rfl) ?_
 refine TL'.pU (.gone _ _ _ rfl rfl rfl) (dk rfl) ?_
 refine TL'.pU (.gone _ _ _ rfl rfl rfl) (dk rfl) ?_
 refine TL'.pU (.gone _ _ _ rfl rfl rfl) (dk rfl) ?_
 refine TL'.pU (.gone _ _ _ rfl rfl rfl) (dk rfl) ?_
 refine TL'.pU (.gone _ _ _ rfl rfl rfl) (dk rfl) ?_
 refine TL'.pU (.gone _ _ _ rfl rfl rfl) (dk rfl) ?_
 refine TL'.pU (.gone _ _ _ rfl rfl rfl) (dk rfl) ?_
 refine TL'.pU (.gone _ _ _ rfl rfl rfl) (dk rfl) ?_
 refine TL'.pU (.gone _ _ _ rfl rfl rfl) (dk rfl) ?_
 refine TL'.pU (.gone _ _ _ rfl rfl rfl) (dk rfl) ?_
 refine TL'.pU (.off _ _ _ _ rfl rfl rfl rfl) (dk rfl) ?_
 refine sp rfl (OpT.pickT rfl (dk rfl) rfl rfl rfl ?_)
 refine TL'.nil (tN ?_)
 refine T.condT rfl rfl ?_
 refine T.by_turn ?_ (sy_shaped_j1_T K h)
 exact Turn.rp (.nil _) (.n _)
 refine TL'.step (.on rfl rfl rfl m) (OpT.fP rfl (dk rfl) ul42 rfl i3 (by decide) rfl ?_)
 refine TL'.step (.on rfl rfl rfl m) (OpT.lB (i := 1) rfl (dk rfl) ul3 rfl rfl rfl rfl ?_)
 refine TL'.step (.on rfl rfl rfl m) (OpT.int2 rfl rfl (dk rfl) rfl rfl ?_)
 refine sp rfl (OpT.pickF rfl (dk rfl) rfl m rfl ?_)
 refine mw rfl ?_
 rcases bif_some h with ⟨g, h⟩ | ⟨g, h⟩
 refine TL'.pU (.off _ _ _ _ rfl rfl rfl g) (dk rfl) ?_
 refine TL'.pU (.off _ _ _ _ rfl rfl rfl g) (dk rfl) ?_
 refine TL'.pU (.off _ _ _ _ rfl rfl rfl g) (dk rfl) ?_
 refine TL'.pU (.off _ _ _ _ rfl rfl rfl g) (dk rfl) ?_
 refine TL'.pU (.gone _ _ _ rfl rfl rfl) (dk rfl) ?_
 refine TL'.pU (.gone _ _ _ rfl rfl rfl) (dk rfl) ?_
 refine TL'.pU (.gone _ _ _ rfl rfl rfl) (dk rfl) ?_
 refine TL'.pU (.gone _ _ _ rfl rfl rfl) (dk rfl) ?_
 refine TL'.pU (.gone _ _ _ rfl rfl rfl) (dk rfl) ?_
 refine TL'.pU (.gone _ _ _ rfl rfl rfl) (dk rfl) ?_
 refine TL'.pU (.gone _ _ _ rfl rfl rfl) (dk rfl) ?_
 refine TL'.pU (.gone _ _ _ rfl rfl rfl) (dk rfl) ?_
 refine TL'.pU (.gone _ _ _ rfl rfl rfl) (dk rfl) ?_
 refine TL'.pU (.gone _ _ _ rfl rfl rfl) (dk rfl) ?_
 refine TL'.pU (.gone _ _ _ rfl rfl rfl) (dk rfl) ?_
 refine TL'.pU (.off _ _ _ _ rfl rfl rfl g) (dk rfl) ?_
 refine sp rfl (OpT.pickT rfl (dk rfl) rfl g rfl ?_)
 refine TL'.nil (tN ?_)
 refine T.condT rfl rfl ?_
 refine T.by_turn ?_ (sy_shaped_j1_T K h)
 exact Turn.rp (.nil _) (.n _)
 refine TL'.step (.on rfl rfl rfl g) (OpT.fP rfl (dk rfl) ul42 rfl i3 (by decide) rfl ?_)
 refine TL'.step (.on rfl rfl rfl g) (OpT.lB (i := 1) rfl (dk rfl) ul3 rfl rfl rfl rfl ?_)
 refine TL'.step (.on rfl rfl rfl g) (OpT.int2 rfl rfl (dk rfl) rfl rfl ?_)
 refine TL'.step (.on rfl rfl rfl g) (OpT.move rfl (dk rfl) rfl ?_)
 rcases bif_some h with ⟨a, h⟩ | ⟨a, h⟩
 refine TL'.step (.on rfl rfl rfl a) (OpT.fP rfl (dk rfl) ul42 rfl i3 (by decide) rfl ?_)
 refine TL'.step (.on rfl rfl rfl a) (OpT.lB (i := 1) rfl (dk rfl) ul3 rfl rfl rfl rfl ?_)
 refine TL'.step (.on rfl rfl rfl a) (OpT.fP rfl (dk rfl) ul42 rfl i3 (by decide) rfl ?_)
 refine TL'.step (.on rfl rfl rfl a) (OpT.lB (i := 1) rfl (dk rfl) ul3 rfl rfl rfl rfl ?_)
 refine TL'.step (.on rfl rfl rfl a) (OpT.max2 rfl (dk rfl) rfl rfl ?_)
 refine TL'.step (.on rfl rfl rfl a) (OpT.int2 rfl rfl (dk rfl) rfl rfl ?_)
 refine TL'.step (.on rfl rfl rfl a) (OpT.move rfl (dk rfl) rfl ?_)
 rcases bif_some h with ⟨p, h⟩ | ⟨p, h⟩
 refine TL'.pU (.off _ _ _ _ rfl rfl rfl p) (dk rfl) ?_
 refine TL'.pU (.off _ _ _ _ rfl rfl rfl p) (dk rfl) ?_
 refine TL'.pU (.off _ _ _ _ rfl rfl rfl p) (dk rfl) ?_
 refine TL'.step (.on rfl rfl rfl a) (OpT.pickT rfl (dk rfl) rfl p rfl ?_)
 refine TL'.step (.on rfl rfl rfl g) (OpT.pickT rfl (dk rfl) rfl a rfl ?_)
 refine sp rfl (OpT.pickF rfl (dk rfl) rfl g rfl ?_)
 refine TL'.nil (tN ?_)
 refine T.condT rfl rfl ?_
 refine T.by_turn ?_ (sy_shaped_j1_T K h)
 exact Turn.rp (.nil _) (.n _)
 refine TL'.step (.on rfl rfl rfl p) (OpT.fP rfl (dk rfl) ul42 rfl i3 (by decide) rfl ?_)
 refine TL'.step (.on rfl rfl rfl p) (OpT.lB (i := 1) rfl (dk rfl) ul3 rfl rfl rfl rfl ?_)
 refine TL'.step (.on rfl rfl rfl p) (OpT.int2 rfl rfl (dk rfl) rfl rfl ?_)
 refine TL'.step (.on rfl rfl rfl a) (OpT.pickF rfl (dk rfl) rfl p rfl ?_)
 refine TL'.step (.on rfl rfl rfl g) (OpT.pickT rfl (dk rfl) rfl a rfl ?_)
 refine sp rfl (OpT.pickF rfl (dk rfl) rfl g rfl ?_)
 refine TL'.nil (tN ?_)
 rcases bif_some h with ⟨y, h⟩ | ⟨y, h⟩
 refine T.condT rfl y ?_
 refine T.by_turn ?_ (sy_shaped_j1_T K h)
 exact Turn.rp (.nil _) (.n _)
 refine T.condF rfl y ?_
 refine T.by_turn ?_ (sy_shaped_j2_T K (x0.L.length : Int) x0 (Arr4.mk 0 0 0 0) j b h)
 exact Turn.rp (.cons rfl (.cons rfl (.cons rfl (.nil _)))) (.c (.s .z) (.c .z (.n _)))
 refine TL'.pU (.off _ _ _ _ rfl rfl rfl a) (dk rfl) ?_
 refine TL'.pU (.off _ _ _ _ rfl rfl rfl a) (dk rfl) ?_
 refine TL'.pU (.off _ _ _ _ rfl rfl rfl a) (dk rfl) ?_
 refine TL'.pU (.off _ _ _ _ rfl rfl rfl a) (dk rfl) ?_
 refine TL'.pU (.off _ _ _ _ rfl rfl rfl a) (dk rfl) ?_
 refine TL'.pU (.off _ _ _ _ rfl rfl rfl a) (dk rfl) ?_
 refine TL'.pU (.off _ _ _ _ rfl rfl rfl a) (dk rfl) ?_
 refine TL'.pU (.gone _ _ _ rfl rfl rfl) (dk rfl) ?_
 refine TL'.pU (.gone _ _ _ rfl rfl rfl) (dk rfl) ?_
 refine TL'.pU (.gone _ _ _ rfl rfl rfl) (dk rfl) ?_
 refine TL'.pU (.off _ _ _ _ rfl rfl rfl a) (dk rfl) ?_
 refine TL'.step (.on rfl rfl rfl g) (OpT.pickF rfl (dk rfl) rfl a rfl ?_)
 refine sp rfl (OpT.pickF rfl (dk rfl) rfl g rfl ?_)
 refine TL'.nil (tN ?_)
 refine T.condF rfl rfl ?_
 refine T.by_turn ?_ (sy_shaped_j2_T K (x0.L.length : Int) x0 (Arr4.mk 0 0 0 0) j b h)
 exact Turn.rp (.cons rfl (.cons rfl (.cons rfl (.nil _)))) (.c (.s .z) (.c .z (.n _)))
 refine T.condF rfl w ?_
 refine T.seq ?_
 refine T.seq (T.rL ?_)
 refine sp rfl (OpT.int2 rfl rfl (dk rfl) rfl rfl ?_)
 refine aw rfl ?_
 refine TL'.nil (tN ?_)
 rcases bif_some h with ⟨aa, h⟩ | ⟨aa, h⟩
 refine T.condT rfl aa ?_
 refine T.skip (tN ?_)
 refine T.by_turn ?_ (sy_shaped_j3_T K (x0.L.length : Int) x0 (x0.Op == (3 : Int)) (Arr4.mk 0 0 0 0) j b h)
 exact Turn.rp (.cons rfl (.cons rfl (.cons rfl (.cons rfl (.cons rfl (.nil _)))))) (.c (.s .z) (.c .z (.n _)))
 refine T.condF rfl aa ?_
 refine T.rL ?_
 refine sp rfl (OpT.int2 rfl rfl (dk rfl) rfl rfl ?_)
 refine aw rfl ?_
 refine TL'.nil (tN ?_)
 refine T.by_turn ?_ (sy_shaped_j3_T K (x0.L.length : Int) x0 (x0.Op == (4 : Int)) (Arr4.mk 0 0 0 0) j b h)
 exact Turn.rp (.cons rfl (.cons rfl (.cons rfl (.cons rfl (.cons rfl (.nil _)))))) (.c (.s .z) (.c .z (.n _)))
abbrev slices_Equal_int_q (r : Bool) : Exit → St → Prop := retS Tryd.prog Tryd.f37 (fun y t => y = (.bool r) ∧ t = [])
abbrev slices_Equal_int_qs111 (r : Bool) : Exit → St → Prop := thenS (fun s' => T Tryd.prog 26 (Code.at [1, 1, 1] (codeOf Tryd.f37)) s' ((slices_Equal_int_q r))) ((slices_Equal_int_q r))
abbrev slices_Equal_int_qb0x111 (r : Bool) : Exit → St → Prop := inBlockS 0 ((slices_Equal_int_qs111 r))
theorem slices_Equal_int_l0_T {r : Bool} (K : Nat) : ∀ (k : Nat), ∀ (x0 : List Int) (x1 : List Int) (g : Int) (a : Int) (flx0 : Bool) (flx1 : Bool), slices_Equal_int_l0 K k x0 x1 g a = some r → TL Tryd.prog 26 (Code.at [1, 1, 0, 1, 0, 0] (codeOf Tryd.f37)) ⟨[(0, .sl flx0 1 (x0.map (cI .i64))), (1, .sl flx1 1 (x1.map (cI .i64))), (12, .int .i64 g), (13, .int .i64 a)], []⟩ (slices_Equal_int_qb0x111 r) := by
  intro k
  induction k with
  | zero =>
    intro x0 x1 g a flx0 flx1 h
    cases (show (none : Option Bool) = some r from h)
  | succ k ih =>
    intro x0 x1 g a flx0 flx1 h
    rw [slices_Equal_int_l0] at h
    refine TL.round ?_
    refine T.seq ?_
    refine T.rL ?_
    refine sp rfl (OpT.int2 rfl rfl (dl rfl rfl) rfl rfl ?_)
    refine TL'.nil (tN ?_)
    refine T.seq ?_
    rcases bif_some h with ⟨i, h⟩ | ⟨i, h⟩
    · refine T.condT rfl i ?_
      refine T.skip (tN ?_)
      refine T.seq ?_
      refine T.block ?_
      refine T.seq ?_
      refine T.rL ?_
      refine mv rfl rfl rfl rfl rfl ?_
      refine asg rfl rfl rfl rfl rfl ?_
      refine TL'.nil (tN ?_)
      refine T.seq ?_
      refine DG.start ?_
      refine DG.mv rfl rfl rfl rfl rfl rfl ?_
      refine DG.mv rfl rfl rfl rfl rfl rfl ?_
      obtain ⟨b, l, h⟩ := bind_some h
      refine DG.step (c := ⟨some 18, .ref [.int .i64 b], [(16, .sl flx0 1 (x0.map (cI .i64))), (17, .int .i64 a)], [], []⟩) (fun t hm => One.step rfl (.free rfl) (OpT.indexSlM (xs := x0) (f := (cI .i64)) (v := b) rfl (dl rfl rfl) Tryd.underlying40 i3 hm.s0 hm.s1 l rfl)) (Ct.mo rfl rfl) ?_
      refine DG.step (c := ⟨some 19, .int .i64 b, [(18, .ref [.int .i64 b])], [], []⟩) (fun t hm => One.step rfl (.free rfl) (OpT.loadRef rfl (dl rfl rfl) Tryd.underlying3 rfl hm.s0 rfl rfl)) (Ct.mo rfl rfl) ?_
      refine DG.mv rfl rfl rfl rfl rfl rfl ?_
      refine DG.mv rfl rfl rfl rfl rfl rfl ?_
      obtain ⟨d, m, h⟩ := bind_some h
      refine DG.step (c := ⟨some 22, .ref [.int .i64 d], [(20, .sl flx1 1 (x1.map (cI .i64))), (21, .int .i64 a)], [], []⟩) (fun t hm => One.step rfl (.free rfl) (OpT.indexSlM (xs := x1) (f := (cI .i64)) (v := d) rfl (dl rfl rfl) Tryd.underlying40 i3 hm.s0 hm.s1 m rfl)) (Ct.mo rfl rfl) ?_
      refine DG.step (c := ⟨some 23, .int .i64 d, [(22, .ref [.int .i64 d])], [], []⟩) (fun t hm => One.step rfl (.free rfl) (OpT.loadRef rfl (dl rfl rfl) Tryd.underlying3 rfl hm.s0 rfl rfl)) (Ct.mo rfl rfl) ?_
      refine DG.step (c := ⟨some 24, .bool (b != d), [(19, .int .i64 b), (23, .int .i64 d)], [], []⟩) (fun t hm => One.step rfl (.free rfl) (OpT.int2 rfl rfl (dl rfl rfl) hm.s0 hm.s1 rfl)) (Ct.mo rfl rfl) ?_
      refine DG.fin (s1 := ⟨[(0, .sl flx0 1 (x0.map (cI .i64))), (1, .sl flx1 1 (x1.map (cI .i64))), (12, .int .i64 g), (13, .int .i64 a), (24, .bool (b != d))], []⟩) (ms := [0, 0, 3, 7, 0, 0, 48, 112, 255]) TrydMixed rfl (by kernel_rfl) (by kernel_rfl) (by kernel_rfl) (.cons rfl (.cons rfl (.cons rfl (.cons rfl (.cons rfl (.nil _)))))) rfl (fun u hu => (tN (T.by_turn hu ?_)))
      rcases bif_some h with ⟨j, h⟩ | ⟨j, h⟩
      · refine T.condT rfl j ?_
        refine T.seq ?_
        refine T.rL ?_
        refine asg rfl rfl rfl rfl rfl ?_
        refine TL'.nil (tN ?_)
        refine T.ret (inBlock_ret (thenS_ret (thenS_ret (inBlock_ret (thenS_ret ?_)))))
        exact Fin.done (.cons _ _ _ _ (.tmp 4 _ rfl) .nil) (by cases h; exact ⟨rfl, rfl⟩)
      · refine T.condF rfl j ?_
        refine T.skip (inBlock_normal (tN ?_))
        refine T.rL ?_
        refine sp rfl (OpT.int2 rfl rfl (dl rfl rfl) rfl rfl ?_)
        refine mv rfl rfl rfl rfl rfl ?_
        refine TL'.nil (tN ?_)
        refine TL.by_turn ?_ (ih x0 x1 g (wI (a + (1 : Int))) flx0 flx1 h)
        exact Turn.rp (.cons rfl (.cons rfl (.cons rfl (.cons rfl (.nil _))))) (.n _)
    · refine T.condF rfl i ?_
      refine T.exit (thenS_exit (thenS_exit (inBlock_exit (tN ?_))))
      refine T.seq ?_
      refine T.rL ?_
      refine asg rfl rfl rfl rfl rfl ?_
      refine TL'.nil (tN ?_)
      refine T.ret ?_
      exact Fin.done (.cons _ _ _ _ (.tmp 4 _ rfl) .nil) (by cases h; exact ⟨rfl, rfl⟩)
theorem slices_Equal_int_T (K : Nat) {x0 : List Int} {x1 : List Int} {flx0 : Bool} {flx1 : Bool} {r : Bool} (h : slices_Equal_int K x0 x1 = some r) : CallR Tryd.prog 37 [.sl flx0 1 (x0.map (cI .i64)), .sl flx1 1 (x1.map (cI .i64))] [] (.bool r) := by
 refine CallT.intro Tryd.func37 rfl (nb rfl) ?_
 show T Tryd.prog 26 (Code.at [] (codeOf Tryd.f37)) ⟨paramSlots 0 [.sl flx0 1 (x0.map (cI .i64)), .sl flx1 1 (x1.map (cI .i64))], []⟩ (slices_Equal_int_q r)
 unfold slices_Equal_int at h
 refine T.seq (T.rL ?_)
 refine aw rfl ?_
 refine TL'.nil (tN ?_)
 refine T.seq ?_
 refine T.seq (T.rL ?_)
 refine mw rfl ?_
 refine sp rfl (OpT.lenSlM (xs := x0) (f := (cI .i64)) rfl (dk rfl) ul40 rfl ?_)
 refine mw rfl ?_
 refine sp rfl (OpT.lenSlM (xs := x1) (f := (cI .i64)) rfl (dk rfl) ul40 rfl ?_)
 refine sp rfl (OpT.int2 rfl rfl (dk rfl) rfl rfl ?_)
 refine TL'.nil (tN ?_)
 rcases bif_some h with ⟨a, h⟩ | ⟨a, h⟩
 refine T.condT rfl a ?_
 refine T.seq (T.rL ?_)
 refine aw rfl ?_
 refine TL'.nil (tN ?_)
 refine T.ret (thenS_ret ?_)
 exact Fin.done (.cons _ _ _ _ (.tmp 4 _ rfl) .nil) (by cases h; exact ⟨rfl, rfl⟩)
 refine T.condF rfl a ?_
 refine T.skip (tN ?_)
 refine T.seq ?_
 refine T.seq (T.rL ?_)
 refine mw rfl ?_
 refine sp rfl (OpT.lenSlM (xs := x0) (f := (cI .i64)) rfl (dk rfl) ul40 rfl ?_)
 refine mw rfl ?_
 refine TL'.nil (tN ?_)
 refine T.block ?_
 refine T.loop ?_
 refine TL.by_turn ?_ (slices_Equal_int_l0_T K K x0 x1 (x0.length : Int) (0 : Int) flx0 flx1 h)
 exact Turn.rp (.cons rfl (.cons rfl (.cons rfl (.cons rfl (.nil _))))) (.n _)
end Go.Rv

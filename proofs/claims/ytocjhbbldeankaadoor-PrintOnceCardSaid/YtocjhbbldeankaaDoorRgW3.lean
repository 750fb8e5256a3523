/- Each function computes what its plain text says: printed by a program of ours. -/
import Derived.Test.YtocjhbbldeankaaDoorRgW2
namespace Go.Rv
open Go.Proofs
set_option maxRecDepth 100000
set_option maxHeartbeats 4000000
set_option linter.unusedVariables false
abbrev sy_Right_q (r : Bool) : Exit → St → Prop := retS Tryd.prog Tryd.f16 (fun y t => y = (.bool r) ∧ t = [])
abbrev sy_Right_qs11 (r : Bool) : Exit → St → Prop := thenS (fun s' => T Tryd.prog 56 (Code.at [1, 1] (codeOf Tryd.f16)) s' ((sy_Right_q r))) ((sy_Right_q r))
abbrev sy_Right_qs1111 (r : Bool) : Exit → St → Prop := thenS (fun s' => T Tryd.prog 56 (Code.at [1, 1, 1, 1] (codeOf Tryd.f16)) s' ((sy_Right_q r))) ((sy_Right_q r))
abbrev sy_Right_qb0x1111 (r : Bool) : Exit → St → Prop := inBlockS 0 ((sy_Right_qs1111 r))
abbrev sy_Right_ql111010 (r : Bool) : Exit → St → Prop := thenS (fun s' => TL Tryd.prog 56 (Code.at [1, 1, 1, 0, 1, 0, 0] (codeOf Tryd.f16)) s' ((sy_Right_qb0x1111 r))) ((sy_Right_qb0x1111 r))
abbrev sy_Right_qs1110100111 (r : Bool) : Exit → St → Prop := thenS (fun s' => T Tryd.prog 56 (Code.at [1, 1, 1, 0, 1, 0, 0, 1, 1, 1] (codeOf Tryd.f16)) s' ((sy_Right_ql111010 r))) ((sy_Right_ql111010 r))
abbrev sy_Right_qb1_0x1110100111 (r : Bool) : Exit → St → Prop := inBlockS 1 ((sy_Right_qs1110100111 r))
abbrev sy_Right_qs1110100110011 (r : Bool) : Exit → St → Prop := thenS (fun s' => T Tryd.prog 56 (Code.at [1, 1, 1, 0, 1, 0, 0, 1, 1, 0, 0, 1, 1] (codeOf Tryd.f16)) s' ((sy_Right_qb1_0x1110100111 r))) ((sy_Right_qb1_0x1110100111 r))
theorem sy_Right_j0_T {r : Bool} (K : Nat) (h : sy_Right_j0 K = some r) : T Tryd.prog 56 (Code.at [1, 0, 1, 0] (codeOf Tryd.f16)) ⟨[], []⟩ (sy_Right_qs11 r) := by
 unfold sy_Right_j0 at h
 refine T.seq (T.rL ?_)
 refine aw rfl ?_
 refine TL'.nil (tN ?_)
 refine T.ret (thenS_ret ?_)
 exact Fin.done (.cons _ _ _ _ (.tmp 2 _ rfl) .nil) (by cases h; exact ⟨rfl, rfl⟩)
theorem sy_Right_j2_T {r : Bool} (K : Nat) (h : sy_Right_j2 K = some r) : T Tryd.prog 56 (Code.at [1, 1, 1, 0, 1, 0, 0, 1, 1, 0, 0, 1, 0, 1, 0] (codeOf Tryd.f16)) ⟨[], []⟩ (sy_Right_qs1110100110011 r) := by
 unfold sy_Right_j2 at h
 refine T.seq (T.rL ?_)
 refine aw rfl ?_
 refine TL'.nil (tN ?_)
 refine T.ret (thenS_ret (inBlock_ret (thenS_ret (thenS_ret (inBlock_ret (thenS_ret ?_))))))
 exact Fin.done (.cons _ _ _ _ (.tmp 2 _ rfl) .nil) (by cases h; exact ⟨rfl, rfl⟩)
theorem sy_Right_l1_T {r : Bool} (K : Nat) : ∀ (k : Nat), ∀ (x0 : List aNd) (p : Int) (m : Int) (b : List Int) (flx0 : Bool) (j : Value), sy_Right_l1 K k x0 p m b = some r → TL Tryd.prog 56 (Code.at [1, 1, 1, 0, 1, 0, 0] (codeOf Tryd.f16)) ⟨[(3, .c (.ex j)), (15, .sl flx0 9 (x0.map c_aNd)), (16, .int .i64 p), (17, .int .i64 m)], [.arrX j 3 1 0 (b.map (cI .i64))]⟩ (sy_Right_qb0x1111 r) := by
  intro k
  induction k with
  | zero =>
    intro x0 p m b flx0 j h
    cases (show (none : Option Bool) = some r from h)
  | succ k ih =>
    intro x0 p m b flx0 j h
    rw [sy_Right_l1] at h
    refine TL.round ?_
    refine T.seq ?_
    refine T.rL ?_
    refine sp rfl (OpT.int2 rfl rfl (dl rfl rfl) rfl rfl ?_)
    refine TL'.nil (tN ?_)
    refine T.seq ?_
    rcases bif_some h with ⟨aa, h⟩ | ⟨aa, h⟩
    · refine T.condT rfl aa ?_
      refine T.skip (tN ?_)
      refine T.seq ?_
      refine T.block ?_
      refine T.seq ?_
      refine T.rL ?_
      refine mv rfl rfl rfl rfl rfl ?_
      obtain ⟨a, ad, h⟩ := bind_some h
      refine sp rfl (OpT.indexSlM (xs := x0) (f := c_aNd) (v := a) rfl (dl rfl rfl) Tryd.underlying22 i42 rfl rfl ad ?_)
      refine sp rfl (OpT.loadRefAgg rfl (dl rfl rfl) Tryd.underlying42 rfl i42 rfl (Nat.le_of_ble_eq_true rfl) ?_)
      refine sp rfl (OpT.alloc' rfl (dl rfl rfl) i42 rfl (fun q => ?_))
      refine asg rfl rfl rfl rfl rfl ?_
      refine sp rfl (OpT.storeAggTo (i := 0) (cells' := [.d (.int .u8 a.Op), .d (.int .u64 a.S.a0), .d (.int .u64 a.S.a1), .d (.int .u64 a.S.a2), .d (.int .u64 a.S.a3), .d (.sl false 1 (a.L.map (cI .i64))), .d (.int .i64 a.Lo), .d (.int .i64 a.Hi), .d (.str a.Name)]) rfl rfl i42 rfl rfl rfl rfl (Nat.le_of_ble_eq_true rfl) rfl ?_)
      refine TL'.nil (tN ?_)
      refine T.seq ?_
      refine T.seq ?_
      refine T.rL ?_
      refine sp rfl (OpT.lBAgg (i := 0) (l := [.int .u8 a.Op, .int .u64 a.S.a0, .int .u64 a.S.a1, .int .u64 a.S.a2, .int .u64 a.S.a3, .sl false 1 (a.L.map (cI .i64)), .int .i64 a.Lo, .int .i64 a.Hi, .str a.Name]) rfl (dl rfl rfl) Tryd.underlying42 rfl i42 rfl rfl rfl rfl ?_)
      obtain ⟨al, af, h⟩ := bind_some h
      refine sp rfl (OpT.callPA rfl (dl rfl rfl) Tryd.func36 rfl rfl (Args.cons rfl Args.nil) (CallR.nil (sy_shaped_T K af)) ?_)
      refine sp rfl (OpT.not rfl (dl rfl rfl) rfl ?_)
      refine mv rfl rfl rfl rfl rfl ?_
      rcases bif_some h with ⟨g, h⟩ | ⟨g, h⟩
      · refine TL'.pU (.off _ _ _ _ rfl rfl rfl g) (dl rfl rfl) ?_
        refine TL'.pU (.off _ _ _ _ rfl rfl rfl g) (dl rfl rfl) ?_
        refine TL'.pU (.off _ _ _ _ rfl rfl rfl g) (dl rfl rfl) ?_
        refine TL'.pU (.off _ _ _ _ rfl rfl rfl g) (dl rfl rfl) ?_
        refine TL'.pU (.off _ _ _ _ rfl rfl rfl g) (dl rfl rfl) ?_
        refine TL'.pU (.off _ _ _ _ rfl rfl rfl g) (dl rfl rfl) ?_
        refine sp rfl (OpT.pickT rfl (dl rfl rfl) rfl g rfl ?_)
        refine TL'.nil (tN ?_)
        refine T.condT rfl rfl ?_
        refine T.by_turn ?_ (sy_Right_j2_T K h)
        exact Turn.rp (.nil _) (.n _)
      · refine TL'.step (.on rfl rfl rfl g) (OpT.move rfl (dl rfl rfl) rfl ?_)
        refine TL'.step (.on rfl rfl rfl g) (OpT.lenXM (i := 1) (xs := b) (f := (cI .i64)) rfl (dl rfl rfl) Tryd.underlying40 rfl rfl ?_)
        refine TL'.step (.on rfl rfl rfl g) (OpT.fP rfl (dl rfl rfl) Tryd.underlying42 rfl i40 (by decide) rfl ?_)
        refine TL'.step (.on rfl rfl rfl g) (OpT.lB (i := 0) rfl (dl rfl rfl) Tryd.underlying40 rfl rfl rfl rfl ?_)
        refine TL'.step (.on rfl rfl rfl g) (OpT.lenSlM (xs := a.L) (f := (cI .i64)) rfl (dl rfl rfl) Tryd.underlying40 rfl ?_)
        refine TL'.step (.on rfl rfl rfl g) (OpT.int2 rfl rfl (dl rfl rfl) rfl rfl ?_)
        refine sp rfl (OpT.pickF rfl (dl rfl rfl) rfl g rfl ?_)
        refine TL'.nil (tN ?_)
        rcases bif_some h with ⟨ab, h⟩ | ⟨ab, h⟩
        · refine T.condT rfl ab ?_
          refine T.by_turn ?_ (sy_Right_j2_T K h)
          exact Turn.rp (.nil _) (.n _)
        · refine T.condF rfl ab ?_
          refine T.skip (tN ?_)
          refine T.seq ?_
          refine T.rL ?_
          refine mv rfl rfl rfl rfl rfl ?_
          refine sp rfl (OpT.lenXM (i := 1) (xs := b) (f := (cI .i64)) rfl (dl rfl rfl) Tryd.underlying40 rfl rfl ?_)
          refine sp rfl (OpT.fP rfl (dl rfl rfl) Tryd.underlying42 rfl i40 (by decide) rfl ?_)
          refine sp rfl (OpT.lB (i := 0) rfl (dl rfl rfl) Tryd.underlying40 rfl rfl rfl rfl ?_)
          refine sp rfl (OpT.lenSlM (xs := a.L) (f := (cI .i64)) rfl (dl rfl rfl) Tryd.underlying40 rfl ?_)
          refine sp rfl (OpT.int2 rfl rfl (dl rfl rfl) rfl rfl ?_)
          refine asg rfl rfl rfl rfl rfl ?_
          refine TL'.nil (tN ?_)
          refine T.seq ?_
          refine T.seq ?_
          refine DG.start ?_
          refine DG.mv rfl rfl rfl rfl rfl rfl ?_
          refine DG.mv rfl rfl rfl rfl rfl rfl ?_
          obtain ⟨w, h⟩ := ck_some h
          refine DG.step (c := ⟨some 41, .sub j 1 (Int.toNat (wI ((b.length : Int) - (a.L.length : Int)))), [(39, .c (.ex j)), (40, .int .i64 (wI ((b.length : Int) - (a.L.length : Int))))], [(1, .arrX j 3 1 0 (b.map (cI .i64)))], []⟩) (fun t hm => One.step rfl (.free rfl) (OpT.sliceSub (i := 1) (xs := b) (f := (cI .i64)) (l := (Int.toNat (wI ((b.length : Int) - (a.L.length : Int))))) rfl (dl rfl rfl) Tryd.underlying40 i3 hm.s0 hm.o0 (.some _ _ _ _ hm.s1 w.1) w.2 rfl)) (Ct.mo rfl rfl) ?_
          refine DG.step (c := ⟨some 42, .ptr q (0 + 5), [(5, .ptr q 0)], [], []⟩) (fun t hm => One.step rfl (.free rfl) (OpT.fP rfl (dl rfl rfl) Tryd.underlying42 rfl i40 (by decide) hm.s0 rfl)) (Ct.mo rfl rfl) ?_
          refine DG.step (c := ⟨some 43, .sl false 1 (a.L.map (cI .i64)), [(42, .ptr q (0 + 5))], [(0, .box q 42 [.d (.int .u8 a.Op), .d (.int .u64 a.S.a0), .d (.int .u64 a.S.a1), .d (.int .u64 a.S.a2), .d (.int .u64 a.S.a3), .d (.sl false 1 (a.L.map (cI .i64))), .d (.int .i64 a.Lo), .d (.int .i64 a.Hi), .d (.str a.Name)])], []⟩) (fun t hm => One.step rfl (.free rfl) (OpT.lB (i := 0) rfl (dl rfl rfl) Tryd.underlying40 rfl hm.s0 hm.o0 rfl rfl)) (Ct.mo rfl rfl) ?_
          obtain ⟨y, ag, h⟩ := bind_some h
          refine DG.step (c := ⟨some 44, .bool y, [(41, .sub j 1 (Int.toNat (wI ((b.length : Int) - (a.L.length : Int))))), (43, .sl false 1 (a.L.map (cI .i64)))], [(1, .arrX j 3 1 0 (b.map (cI .i64)))], []⟩) (fun t hm => One.step rfl (.free rfl) (OpT.callLent (i := 1) rfl (dl rfl rfl) Tryd.func37 rfl rfl hm.o0 (ArgsB.lentSub (xs := b) (f := (cI .i64)) hm.s0 (ArgsB.cons hm.s1 ArgsB.nil)) (CallR.nil (slices_Equal_int_T K (flx0 := false) (flx1 := false) ag)) (.ex _) rfl)) (Ct.mo rfl rfl) ?_
          refine DG.step (c := ⟨some 45, .bool (!y), [(44, .bool y)], [], []⟩) (fun t hm => One.step rfl (.free rfl) (OpT.not rfl (dl rfl rfl) hm.s0 rfl)) (Ct.mo rfl rfl) ?_
          refine DG.fin (s1 := ⟨[(3, .c (.ex j)), (4, .int .i64 m), (6, .int .i64 (wI ((b.length : Int) - (a.L.length : Int)))), (15, .sl flx0 9 (x0.map c_aNd)), (16, .int .i64 p), (17, .int .i64 m), (26, .c (.ex j)), (27, .int .i64 (b.length : Int)), (28, .ptr q (0 + 5)), (29, .sl false 1 (a.L.map (cI .i64))), (30, .int .i64 (a.L.length : Int)), (31, .bool (decide ((b.length : Int) < (a.L.length : Int)))), (45, .bool (!y))], [.box q 42 [.d (.int .u8 a.Op), .d (.int .u64 a.S.a0), .d (.int .u64 a.S.a1), .d (.int .u64 a.S.a2), .d (.int .u64 a.S.a3), .d (.sl false 1 (a.L.map (cI .i64))), .d (.int .i64 a.Lo), .d (.int .i64 a.Hi), .d (.str a.Name)], .arrX j 3 1 0 (b.map (cI .i64))]⟩) (ms := [0, 0, 3, 0, 8, 31, 63]) TrydMixed rfl (by kernel_rfl) (by kernel_rfl) (by kernel_rfl) (.cons rfl (.cons rfl (.cons rfl (.cons rfl (.cons rfl (.cons rfl (.cons rfl (.cons rfl (.cons rfl (.cons rfl (.cons rfl (.cons rfl (.cons rfl (.nil _)))))))))))))) rfl (fun u hu => (tN (T.by_turn hu ?_)))
          rcases bif_some h with ⟨ac, h⟩ | ⟨ac, h⟩
          · refine T.condT rfl ac ?_
            refine T.seq ?_
            refine T.rL ?_
            refine asg rfl rfl rfl rfl rfl ?_
            refine TL'.nil (tN ?_)
            refine T.ret (thenS_ret (inBlock_ret (thenS_ret (thenS_ret (inBlock_ret (thenS_ret ?_))))))
            exact Fin.done (.cons _ _ _ _ (.tmp 2 _ rfl) .nil) (by cases h; exact ⟨rfl, rfl⟩)
          · refine T.condF rfl ac ?_
            refine T.skip (tN ?_)
            refine T.rL ?_
            refine mv rfl rfl rfl rfl rfl ?_
            refine mv rfl rfl rfl rfl rfl ?_
            refine sp rfl (OpT.sliceX (i := 1) (xs := b) (f := (cI .i64)) (h := (Int.toNat (wI ((b.length : Int) - (a.L.length : Int))))) rfl (dl rfl rfl) Tryd.underlying40 i3 rfl rfl (.some _ _ _ _ rfl w.1) w.2 (fun am => ?_))
            refine mv rfl rfl rfl rfl rfl ?_
            refine sp rfl (OpT.buildSlice (elems := ([m] : List Int).map (cI .i64)) rfl (dl rfl rfl) Tryd.underlying40 i3 (by decide) rfl (all1 rfl) rfl rfl rfl (lenAll rfl) (by decide) ?_)
            obtain ⟨ai, h⟩ := ck_some h
            refine sp rfl (OpT.appendXM (i := 1) (xs := (b.take (Int.toNat (wI ((b.length : Int) - (a.L.length : Int)))))) (ys := [m]) (f := (cI .i64)) rfl (dl rfl rfl) Tryd.underlying40 i3 rfl rfl rfl rfl ai (fun aj => ?_))
            refine asg rfl rfl rfl rfl rfl ?_
            refine TL'.nil (inBlock_normal (tN ?_))
            refine T.rL ?_
            refine sp rfl (OpT.int2 rfl rfl (dl rfl rfl) rfl rfl ?_)
            refine mv rfl rfl rfl rfl rfl ?_
            refine TL'.nil (tN ?_)
            refine TL.by_turn ?_ (ih x0 p (wI (m + (1 : Int))) ((b.take (Int.toNat (wI ((b.length : Int) - (a.L.length : Int))))) ++ [m]) flx0 aj h)
            exact Turn.rp (.cons rfl (.cons rfl (.cons rfl (.cons rfl (.nil _))))) (.c (.s .z) (.n _))
    · refine T.condF rfl aa ?_
      refine T.exit (thenS_exit (thenS_exit (inBlock_exit (tN ?_))))
      refine T.seq ?_
      refine T.rL ?_
      refine mv rfl rfl rfl rfl rfl ?_
      refine sp rfl (OpT.lenXM (i := 0) (xs := b) (f := (cI .i64)) rfl (dl rfl rfl) Tryd.underlying40 rfl rfl ?_)
      refine sp rfl (OpT.int2 rfl rfl (dl rfl rfl) rfl rfl ?_)
      refine asg rfl rfl rfl rfl rfl ?_
      refine TL'.nil (tN ?_)
      refine T.ret ?_
      exact Fin.done (.cons _ _ _ _ (.tmp 2 _ rfl) .nil) (by cases h; exact ⟨rfl, rfl⟩)
theorem sy_Right_T (K : Nat) {x0 : List aNd} {flx0 : Bool} {r : Bool} (h : sy_Right K x0 = some r) : CallR Tryd.prog 16 [.sl flx0 9 (x0.map c_aNd)] [] (.bool r) := by
 refine CallT.intro Tryd.func16 rfl (nb rfl) ?_
 show T Tryd.prog 56 (Code.at [] (codeOf Tryd.f16)) ⟨paramSlots 0 [.sl flx0 9 (x0.map c_aNd)], []⟩ (sy_Right_q r)
 unfold sy_Right at h
 refine T.seq (T.rL ?_)
 refine aw rfl ?_
 refine TL'.nil (tN ?_)
 refine T.seq ?_
 refine T.seq (T.rL ?_)
 refine mw rfl ?_
 refine sp rfl (OpT.lenSlM (xs := x0) (f := c_aNd) rfl (dk rfl) ul22 rfl ?_)
 refine sp rfl (OpT.int2 rfl rfl (dk rfl) rfl rfl ?_)
 refine mw rfl ?_
 rcases bif_some h with ⟨a, h⟩ | ⟨a, h⟩
 refine TL'.pU (.off _ _ _ _ rfl rfl rfl a) (dk rfl) ?_
 refine TL'.pU (.off _ _ _ _ rfl rfl rfl a) (dk rfl) ?_
 refine TL'.pU (.off _ _ _ _ rfl rfl rfl a) (dk rfl) ?_
 refine sp rfl (OpT.pickT rfl (dk rfl) rfl a rfl ?_)
 refine TL'.nil (tN ?_)
 refine T.condT rfl rfl ?_
 refine T.by_turn ?_ (sy_Right_j0_T K h)
 exact Turn.rp (.nil _) (.n _)
 refine TL'.step (.on rfl rfl rfl a) (OpT.move rfl (dk rfl) rfl ?_)
 refine TL'.step (.on rfl rfl rfl a) (OpT.lenSlM (xs := x0) (f := c_aNd) rfl (dk rfl) ul22 rfl ?_)
 refine TL'.step (.on rfl rfl rfl a) (OpT.int2 rfl rfl (dk rfl) rfl rfl ?_)
 refine sp rfl (OpT.pickF rfl (dk rfl) rfl a rfl ?_)
 refine TL'.nil (tN ?_)
 rcases bif_some h with ⟨b, h⟩ | ⟨b, h⟩
 refine T.condT rfl b ?_
 refine T.by_turn ?_ (sy_Right_j0_T K h)
 exact Turn.rp (.nil _) (.n _)
 refine T.condF rfl b ?_
 refine T.skip (tN ?_)
 refine T.seq (T.rL ?_)
 refine aw rfl ?_
 refine TL'.nil (tN ?_)
 refine T.seq ?_
 refine T.seq (T.rL ?_)
 refine mw rfl ?_
 refine sp rfl (OpT.lenSlM (xs := x0) (f := c_aNd) rfl (dk rfl) ul22 rfl ?_)
 refine mw rfl ?_
 refine TL'.nil (tN ?_)
 refine T.block ?_
 refine T.loop ?_
 refine TL.by_turn (Turn.nilX 3 1) ?_
 refine TL.by_turn ?_ (sy_Right_l1_T K K x0 (x0.length : Int) (0 : Int) [] flx0 (nilv 2) h)
 exact Turn.rp (.cons rfl (.cons rfl (.cons rfl (.cons rfl (.nil _))))) (.c .z (.n _))
theorem strings_Join_T (K : Nat) {x0 : List ByteArray} {x1 : ByteArray} {flx0 : Bool} {r : ByteArray} (h : strings_Join K x0 x1 = some r) : CallR Tryd.prog 22 [.sl flx0 1 (x0.map cS), .str x1] [] (.str r) := by
 unfold strings_Join at h
 split at h
 next hc => cases h; exact join_call Tryd.lays156 Tryd.Builder_Extra_156 hc.1 hc.2
 cases h
abbrev bits_TrailingZeros64_q (r : Int) : Exit → St → Prop := retS Tryd.prog Tryd.f71 (fun y t => y = (.int .i64 r) ∧ t = [.ro 2 deBruijnD])
theorem bits_TrailingZeros64_T (K : Nat) {x0 : Int} {r : Int} (h : bits_TrailingZeros64 K x0 = some r) : CallR Tryd.prog 71 [.int .u64 x0] [.ro 2 deBruijnD] (.int .i64 r) := by
 refine CallT.intro Tryd.func71 rfl (nb rfl) ?_
 show T Tryd.prog 14 (Code.at [] (codeOf Tryd.f71)) ⟨paramSlots 0 [.int .u64 x0], [.ro 2 deBruijnD]⟩ (bits_TrailingZeros64_q r)
 unfold bits_TrailingZeros64 at h
 refine T.seq (T.rL ?_)
 refine aw rfl ?_
 refine TL'.nil (tN ?_)
 refine T.seq ?_
 refine T.seq (T.rL ?_)
 refine mw rfl ?_
 refine sp rfl (OpT.int2 rfl rfl (dk rfl) rfl rfl ?_)
 refine TL'.nil (tN ?_)
 rcases bif_some h with ⟨a, h⟩ | ⟨a, h⟩
 refine T.condT rfl a ?_
 refine T.seq (T.rL ?_)
 refine aw rfl ?_
 refine TL'.nil (tN ?_)
 refine T.ret (thenS_ret ?_)
 exact Fin.doneK (.cons _ _ _ _ (.tmp 2 _ rfl) .nil) (.cons 0 rfl (.nil _)) (by cases h; exact ⟨rfl, rfl⟩)
 refine T.condF rfl a ?_
 refine T.skip (tN ?_)
 refine T.seq (T.rL ?_)
 refine mw rfl ?_
 refine mw rfl ?_
 refine sp rfl (OpT.neg rfl (dk rfl) rfl ?_)
 refine sp rfl (OpT.int2 rfl rfl (dk rfl) rfl rfl ?_)
 refine sp rfl (OpT.int2 rfl rfl (dk rfl) rfl rfl ?_)
 refine sp rfl (OpT.shr rfl (dk rfl) rfl rfl (by decide) ?_)
 obtain ⟨d, b, h⟩ := bind_some h
 obtain ⟨c, h⟩ := ck_some h
 refine sp rfl (OpT.indexPtr rfl (dk rfl) ul110 i5 rfl rfl (geti_some b).1 c ?_)
 refine sp rfl (OpT.loadRo (i := 0) rfl (dk rfl) ul5 rfl rfl rfl (ro_get b) ?_)
 refine sp rfl (OpT.convInt rfl (dk rfl) ul5 ul3 rfl ?_)
 refine aw rfl ?_
 refine TL'.nil (tN ?_)
 refine T.ret ?_
 exact Fin.doneK (.cons _ _ _ _ (.tmp 2 _ rfl) .nil) (.cons 0 rfl (.nil _)) (by cases h; exact ⟨rfl, rfl⟩)
abbrev bset_List_q (r : List Int) : Exit → St → Prop := retS Tryd.prog Tryd.f53 (fun y t => y = (.sl false 1 (r.map (cI .u8))) ∧ t = [.ro 2 deBruijnD])
abbrev bset_List_qs111 (r : List Int) : Exit → St → Prop := thenS (fun s' => T Tryd.prog 28 (Code.at [1, 1, 1] (codeOf Tryd.f53)) s' ((bset_List_q r))) ((bset_List_q r))
abbrev bset_List_qb0x111 (r : List Int) : Exit → St → Prop := inBlockS 0 ((bset_List_qs111 r))
abbrev bset_List_ql11010 (r : List Int) : Exit → St → Prop := thenS (fun s' => TL Tryd.prog 28 (Code.at [1, 1, 0, 1, 0, 0] (codeOf Tryd.f53)) s' ((bset_List_qb0x111 r))) ((bset_List_qb0x111 r))
abbrev bset_List_qs110100111 (r : List Int) : Exit → St → Prop := thenS (fun s' => T Tryd.prog 28 (Code.at [1, 1, 0, 1, 0, 0, 1, 1, 1] (codeOf Tryd.f53)) s' ((bset_List_ql11010 r))) ((bset_List_ql11010 r))
abbrev bset_List_qb1_0x110100111 (r : List Int) : Exit → St → Prop := inBlockS 1 ((bset_List_qs110100111 r))
abbrev bset_List_qb2_1_0x110100111 (r : List Int) : Exit → St → Prop := inBlockS 2 ((bset_List_qb1_0x110100111 r))
abbrev bset_List_l0_H (r : List Int) (go : Arr4 → Int → (List Int) → Option (List Int)) : Prop := ∀ (x0 : Arr4) (a : Int) (b : List Int) (d : Value), go x0 a b = some r → TL Tryd.prog 28 (Code.at [1, 1, 0, 1, 0, 0] (codeOf Tryd.f53)) ⟨[(3, .c (.ex d)), (6, .agg (Arr4.dc .u64 x0)), (7, .int .i64 a)], [.arrA d 5 1 (b.map (cI .u8)), .ro 2 deBruijnD]⟩ (bset_List_qb0x111 r)
theorem bset_List_l1_T {r : List Int} (K : Nat) (go0 : Arr4 → Int → (List Int) → Option (List Int)) (hgo0 : bset_List_l0_H r go0) : ∀ (k : Nat), ∀ (a : Int) (d : Int) (x0 : Arr4) (g : Int) (b : List Int) (j : Value), bset_List_l1 K go0 k a d x0 g b = some r → TL Tryd.prog 28 (Code.at [1, 1, 0, 1, 0, 0, 1, 1, 0, 0, 1, 0, 0] (codeOf Tryd.f53)) ⟨[(3, .c (.ex j)), (4, .int .i64 a), (5, .int .u64 d), (6, .agg (Arr4.dc .u64 x0)), (7, .int .i64 g)], [.arrA j 5 1 (b.map (cI .u8)), .ro 2 deBruijnD]⟩ (bset_List_qb2_1_0x110100111 r) := by
  intro k
  induction k with
  | zero =>
    intro a d x0 g b j h
    cases (show (none : Option (List Int)) = some r from h)
  | succ k ih =>
    intro a d x0 g b j h
    rw [bset_List_l1] at h
    refine TL.round ?_
    refine T.seq ?_
    refine T.seq ?_
    refine T.rL ?_
    refine mv rfl rfl rfl rfl rfl ?_
    refine sp rfl (OpT.int2 rfl rfl (dl rfl rfl) rfl rfl ?_)
    refine TL'.nil (tN ?_)
    rcases bif_some h with ⟨l, h⟩ | ⟨l, h⟩
    · refine T.condT rfl l ?_
      refine T.skip (tN ?_)
      refine T.seq ?_
      refine T.block ?_
      refine T.rL ?_
      refine mv rfl rfl rfl rfl rfl ?_
      refine mv rfl rfl rfl rfl rfl ?_
      refine sp rfl (OpT.int2 rfl rfl (dl rfl rfl) rfl rfl ?_)
      refine mv rfl rfl rfl rfl rfl ?_
      obtain ⟨m, p, h⟩ := bind_some h
      refine sp rfl (OpT.callRoA rfl (dl rfl rfl) Tryd.func71 rfl rfl (Args.cons rfl Args.nil) (.cons 1 rfl (.nil)) (bits_TrailingZeros64_T K p) ?_)
      refine sp rfl (OpT.int2 rfl rfl (dl rfl rfl) rfl rfl ?_)
      refine sp rfl (OpT.convInt rfl (dl rfl rfl) Tryd.underlying3 Tryd.underlying5 rfl ?_)
      refine sp rfl (OpT.buildSlice (elems := ([(IntKind.u8.wrap (wI ((wI ((64 : Int) * a)) + m)))] : List Int).map (cI .u8)) rfl (dl rfl rfl) Tryd.underlying32 i5 (by decide) rfl (all1 rfl) rfl rfl rfl (lenAll rfl) (by decide) ?_)
      obtain ⟨q, h⟩ := ck_some h
      refine sp rfl (OpT.appendAM (i := 0) (xs := b) (ys := [(IntKind.u8.wrap (wI ((wI ((64 : Int) * a)) + m)))]) (f := (cI .u8)) rfl (dl rfl rfl) Tryd.underlying32 i5 rfl rfl rfl rfl q (fun s => ?_))
      refine asg rfl rfl rfl rfl rfl ?_
      refine TL'.nil (inBlock_normal (tN ?_))
      refine T.rL ?_
      refine mv rfl rfl rfl rfl rfl ?_
      refine mv rfl rfl rfl rfl rfl ?_
      refine sp rfl (OpT.int2 rfl rfl (dl rfl rfl) rfl rfl ?_)
      refine sp rfl (OpT.int2 rfl rfl (dl rfl rfl) rfl rfl ?_)
      refine asg rfl rfl rfl rfl rfl ?_
      refine TL'.nil (tN ?_)
      refine TL.by_turn ?_ (ih a (bits .and .u64 d (IntKind.u64.wrap (d - (1 : Int)))) x0 g (b ++ [(IntKind.u8.wrap (wI ((wI ((64 : Int) * a)) + m)))]) s h)
      exact Turn.rp (.cons rfl (.cons rfl (.cons rfl (.cons rfl (.cons rfl (.nil _)))))) (.c .z (.c .z (.n _)))
    · refine T.condF rfl l ?_
      refine T.exit (thenS_exit (thenS_exit (inBlock_exit (inBlock_normal (tN ?_)))))
      refine T.rL ?_
      refine sp rfl (OpT.int2 rfl rfl (dl rfl rfl) rfl rfl ?_)
      refine mv rfl rfl rfl rfl rfl ?_
      refine TL'.nil (tN ?_)
      refine TL.by_turn ?_ (hgo0 x0 (wI (g + (1 : Int))) b j h)
      exact Turn.rp (.cons rfl (.cons rfl (.cons rfl (.nil _)))) (.c .z (.c .z (.n _)))
theorem bset_List_l0_T {r : List Int} (K : Nat) : ∀ (k : Nat), ∀ (x0 : Arr4) (b : Int) (d : List Int) (f : Value), bset_List_l0 K k x0 b d = some r → TL Tryd.prog 28 (Code.at [1, 1, 0, 1, 0, 0] (codeOf Tryd.f53)) ⟨[(3, .c (.ex f)), (6, .agg (Arr4.dc .u64 x0)), (7, .int .i64 b)], [.arrA f 5 1 (d.map (cI .u8)), .ro 2 deBruijnD]⟩ (bset_List_qb0x111 r) := by
  intro k
  induction k with
  | zero =>
    intro x0 b d f h
    cases (show (none : Option (List Int)) = some r from h)
  | succ k ih =>
    intro x0 b d f h
    rw [bset_List_l0] at h
    refine TL.round ?_
    refine T.seq ?_
    refine T.rL ?_
    refine sp rfl (OpT.int2 rfl rfl (dl rfl rfl) rfl rfl ?_)
    refine TL'.nil (tN ?_)
    refine T.seq ?_
    rcases bif_some h with ⟨i, h⟩ | ⟨i, h⟩
    · refine T.condT rfl i ?_
      refine T.skip (tN ?_)
      refine T.seq ?_
      refine T.block ?_
      refine T.seq ?_
      refine T.rL ?_
      refine mv rfl rfl rfl rfl rfl ?_
      obtain ⟨g, h⟩ := ck_some h
      refine sp rfl (OpT.indexArr rfl (dl rfl rfl) Tryd.underlying25 Tryd.underlying23 rfl i23 rfl rfl g.1 g.2 (Arr4.dc_get (a := x0) (k := .u64) g.1 g.2) ?_)
      refine asg rfl rfl rfl rfl rfl ?_
      refine asg rfl rfl rfl rfl rfl ?_
      refine TL'.nil (tN ?_)
      refine T.block ?_
      refine T.loop ?_
      refine TL.by_turn ?_ (bset_List_l1_T K (bset_List_l0 K k) ih K b (Arr4.get x0 b) x0 b d f h)
      exact Turn.rp (.cons rfl (.cons rfl (.cons rfl (.cons rfl (.cons rfl (.nil _)))))) (.c .z (.c .z (.n _)))
    · refine T.condF rfl i ?_
      refine T.exit (thenS_exit (thenS_exit (inBlock_exit (tN ?_))))
      refine T.seq ?_
      refine T.rL ?_
      refine mv rfl rfl rfl rfl rfl ?_
      refine asg rfl rfl rfl rfl rfl ?_
      refine TL'.nil (tN ?_)
      refine T.ret ?_
      refine Fin.turn (Turn.view 2 0 rfl rfl) ?_
      exact Fin.doneK (.cons _ _ _ _ (.tmp 2 _ rfl) .nil) (.cons 1 rfl (.nil _)) (by cases h; exact ⟨rfl, rfl⟩)
theorem bset_List_T (K : Nat) {x0 : Arr4} {r : List Int} (h : bset_List K x0 = some r) : CallR Tryd.prog 53 [.agg (Arr4.dc .u64 x0)] [.ro 2 deBruijnD] (.sl false 1 (r.map (cI .u8))) := by
 refine CallT.intro Tryd.func53 rfl (nb rfl) ?_
 show T Tryd.prog 28 (Code.at [] (codeOf Tryd.f53)) ⟨paramSlots 0 [.agg (Arr4.dc .u64 x0)], [.ro 2 deBruijnD]⟩ (bset_List_q r)
 unfold bset_List at h
 refine T.seq (T.rL ?_)
 refine sp rfl (OpT.boxAgg rfl (dk rfl) rfl (fun a => ?_))
 refine aw rfl ?_
 refine TL'.nil (tN (T.seq (T.rL ?_)))
 refine aw rfl ?_
 refine TL'.nil (tN ?_)
 refine T.seq ?_
 refine T.seq (T.rL ?_)
 refine sp rfl (OpT.lBAgg (i := 0) (l := (Arr4.dc .u64 x0)) rfl (dk rfl) ul25 rfl i25 rfl rfl rfl rfl ?_)
 refine mw rfl ?_
 refine TL'.nil (tN ?_)
 refine T.block ?_
 refine T.loop ?_
 refine TL.by_turn (Turn.nilA 5 1) ?_
 refine TL.by_turn ?_ (bset_List_l0_T K K x0 (0 : Int) [] (nilv 2) h)
 exact Turn.rp (.cons rfl (.cons rfl (.cons rfl (.nil _)))) (.c .z (.c (.s .z) (.n _)))
abbrev bset_Spans_q (r : List Arr2) : Exit → St → Prop := retS Tryd.prog Tryd.f28 (fun y t => y = (.sl false 2 (r.map (Arr2.dc .u8))) ∧ t = [.ro 2 deBruijnD])
abbrev bset_Spans_qs1111 (r : List Arr2) : Exit → St → Prop := thenS (fun s' => T Tryd.prog 36 (Code.at [1, 1, 1, 1] (codeOf Tryd.f28)) s' ((bset_Spans_q r))) ((bset_Spans_q r))
abbrev bset_Spans_qb0x1111 (r : List Arr2) : Exit → St → Prop := inBlockS 0 ((bset_Spans_qs1111 r))
abbrev bset_Spans_ql111010 (r : List Arr2) : Exit → St → Prop := thenS (fun s' => TL Tryd.prog 36 (Code.at [1, 1, 1, 0, 1, 0, 0] (codeOf Tryd.f28)) s' ((bset_Spans_qb0x1111 r))) ((bset_Spans_qb0x1111 r))
abbrev bset_Spans_qs1110100111 (r : List Arr2) : Exit → St → Prop := thenS (fun s' => T Tryd.prog 36 (Code.at [1, 1, 1, 0, 1, 0, 0, 1, 1, 1] (codeOf Tryd.f28)) s' ((bset_Spans_ql111010 r))) ((bset_Spans_ql111010 r))
abbrev bset_Spans_qb1_0x1110100111 (r : List Arr2) : Exit → St → Prop := inBlockS 1 ((bset_Spans_qs1110100111 r))
abbrev bset_Spans_l0_H (r : List Arr2) (go : Int → (List Int) → Int → Int → (List Arr2) → Option (List Arr2)) : Prop := ∀ (a : Int) (b : List Int) (d : Int) (f : Int) (g : List Arr2) (i : Value), go a b d f g = some r → TL Tryd.prog 36 (Code.at [1, 1, 1, 0, 1, 0, 0] (codeOf Tryd.f28)) ⟨[(3, .c (.ex i)), (4, .int .i64 a), (8, .sl false 1 (b.map (cI .u8))), (9, .int .i64 d), (10, .int .i64 f)], [.arrX i 56 2 0 (g.map (Arr2.dc .u8)), .ro 2 deBruijnD]⟩ (bset_Spans_qb0x1111 r)
theorem bset_Spans_j1_T {r : List Arr2} (K : Nat) (go0 : Int → (List Int) → Int → Int → (List Arr2) → Option (List Arr2)) (hgo0 : bset_Spans_l0_H r go0) (a : Int) (b : List Int) (d : Int) (f : Int) (g : List Arr2) (i : Value) (h : bset_Spans_j1 K go0 a b d f g = some r) : T Tryd.prog 36 (Code.at [1, 1, 1, 0, 1, 0, 0, 1, 1, 0, 0, 1, 1] (codeOf Tryd.f28)) ⟨[(3, .c (.ex i)), (6, .int .u8 a), (8, .sl false 1 (b.map (cI .u8))), (9, .int .i64 d), (10, .int .i64 f)], [.arrX i 56 2 0 (g.map (Arr2.dc .u8)), .ro 2 deBruijnD]⟩ (bset_Spans_qb1_0x1110100111 r) := by
 unfold bset_Spans_j1 at h
 refine T.rL ?_
 refine mw rfl ?_
 refine sp rfl (OpT.convInt rfl (dk rfl) ul5 ul3 rfl ?_)
 refine aw rfl ?_
 refine TL'.nil (inBlock_normal (tN ?_))
 refine T.rL ?_
 refine sp rfl (OpT.int2 rfl rfl (dk rfl) rfl rfl ?_)
 refine mw rfl ?_
 refine TL'.nil (tN ?_)
 refine TL.by_turn ?_ (hgo0 (wI a) b d (wI (f + (1 : Int))) g i h)
 exact Turn.rp (.cons rfl (.cons rfl (.cons rfl (.cons rfl (.cons rfl (.nil _)))))) (.c .z (.c .z (.n _)))
theorem bset_Spans_l0_T {r : List Arr2} (K : Nat) : ∀ (k : Nat), ∀ (p : Int) (d : List Int) (g : Int) (j : Int) (b : List Arr2) (m : Value), bset_Spans_l0 K k p d g j b = some r → TL Tryd.prog 36 (Code.at [1, 1, 1, 0, 1, 0, 0] (codeOf Tryd.f28)) ⟨[(3, .c (.ex m)), (4, .int .i64 p), (8, .sl false 1 (d.map (cI .u8))), (9, .int .i64 g), (10, .int .i64 j)], [.arrX m 56 2 0 (b.map (Arr2.dc .u8)), .ro 2 deBruijnD]⟩ (bset_Spans_qb0x1111 r) := by
  intro k
  induction k with
  | zero =>
    intro p d g j b m h
    cases (show (none : Option (List Arr2)) = some r from h)
  | succ k ih =>
    intro p d g j b m h
    rw [bset_Spans_l0] at h
    refine TL.round ?_
    refine T.seq ?_
    refine T.rL ?_
    refine sp rfl (OpT.int2 rfl rfl (dl rfl rfl) rfl rfl ?_)
    refine TL'.nil (tN ?_)
    refine T.seq ?_
    rcases bif_some h with ⟨u, h⟩ | ⟨u, h⟩
    · refine T.condT rfl u ?_
      refine T.skip (tN ?_)
      refine T.seq ?_
      refine T.block ?_
      refine T.seq ?_
      refine T.rL ?_
      obtain ⟨a, aa, h⟩ := bind_some h
      refine sp rfl (OpT.indexSlM (xs := d) (f := (cI .u8)) (v := a) rfl (dl rfl rfl) Tryd.underlying32 i5 rfl rfl aa ?_)
      refine sp rfl (OpT.loadRef rfl (dl rfl rfl) Tryd.underlying5 rfl rfl rfl ?_)
      refine asg rfl rfl rfl rfl rfl ?_
      refine TL'.nil (tN ?_)
      refine T.seq ?_
      refine T.seq ?_
      refine T.rL ?_
      refine mv rfl rfl rfl rfl rfl ?_
      refine sp rfl (OpT.convInt rfl (dl rfl rfl) Tryd.underlying5 Tryd.underlying3 rfl ?_)
      refine mv rfl rfl rfl rfl rfl ?_
      refine sp rfl (OpT.int2 rfl rfl (dl rfl rfl) rfl rfl ?_)
      refine sp rfl (OpT.int2 rfl rfl (dl rfl rfl) rfl rfl ?_)
      refine TL'.nil (tN ?_)
      rcases bif_some h with ⟨w, h⟩ | ⟨w, h⟩
      · refine T.condT rfl w ?_
        refine T.rL ?_
        refine mv rfl rfl rfl rfl rfl ?_
        refine mv rfl rfl rfl rfl rfl ?_
        refine sp rfl (OpT.lenXM (i := 0) (xs := b) (f := (Arr2.dc .u8)) rfl (dl rfl rfl) Tryd.underlying54 rfl rfl ?_)
        refine sp rfl (OpT.int2 rfl rfl (dl rfl rfl) rfl rfl ?_)
        refine mv rfl rfl rfl rfl rfl ?_
        obtain ⟨q, y, h⟩ := bind_some h
        refine sp rfl (OpT.indexXM (n := 0) (xs := b) (f := (Arr2.dc .u8)) (old := q) rfl (dl rfl rfl) Tryd.underlying54 i56 rfl rfl rfl y ?_)
        refine sp rfl (OpT.indexEl rfl (dl rfl rfl) Tryd.underlying56 i5 rfl rfl (by decide) (by decide) ?_)
        refine sp rfl (OpT.storeXM (i := 0) (xs := b) (f := (Arr2.dc .u8)) (old := q) (new := (Arr2.set q 1 a)) rfl rfl i5 rfl rfl rfl (geti_some y).2 (Nat.zero_le _) (Nat.le_of_ble_eq_true rfl) rfl ?_)
        refine TL'.nil (tN ?_)
        refine T.by_turn ?_ (bset_Spans_j1_T K (bset_Spans_l0 K k) ih a d g j (List.set b (Int.toNat (wI ((b.length : Int) - (1 : Int)))) (Arr2.set q 1 a)) m h)
        exact Turn.rp (.cons rfl (.cons rfl (.cons rfl (.cons rfl (.cons rfl (.nil _)))))) (.c .z (.c .z (.n _)))
      · refine T.condF rfl w ?_
        refine T.rL ?_
        refine mv rfl rfl rfl rfl rfl ?_
        refine mv rfl rfl rfl rfl rfl ?_
        refine mv rfl rfl rfl rfl rfl ?_
        refine sp rfl (OpT.build (l := (Arr2.dc .u8 (Arr2.mk a a))) rfl (dl rfl rfl) (built_arr Tryd.underlying56 i56 i5) (all1 rfl) rfl rfl ?_)
        refine sp rfl (OpT.buildSliceX (elems := ([(Arr2.mk a a)] : List Arr2).map (Arr2.dc .u8)) rfl (dl rfl rfl) Tryd.underlying54 i56 (by decide) rfl (all1 rfl) rfl rfl rfl (lenAll rfl) (by decide) (fun ad => ?_))
        refine TL'.turn (Turn.sealX 0 rfl) ?_
        refine TL'.turn (Turn.view 30 0 rfl rfl) ?_
        obtain ⟨ab, h⟩ := ck_some h
        refine sp rfl (OpT.appendXM (i := 1) (xs := b) (ys := [(Arr2.mk a a)]) (f := (Arr2.dc .u8)) rfl (dl rfl rfl) Tryd.underlying54 i56 rfl rfl rfl rfl ab (fun ac => ?_))
        refine asg rfl rfl rfl rfl rfl ?_
        refine TL'.nil (tN ?_)
        refine T.by_turn ?_ (bset_Spans_j1_T K (bset_Spans_l0 K k) ih a d g j (b ++ [(Arr2.mk a a)]) ac h)
        exact Turn.rp (.cons rfl (.cons rfl (.cons rfl (.cons rfl (.cons rfl (.nil _)))))) (.c (.s .z) (.c (.s .z) (.n _)))
    · refine T.condF rfl u ?_
      refine T.exit (thenS_exit (thenS_exit (inBlock_exit (tN ?_))))
      refine T.seq ?_
      refine T.rL ?_
      refine mv rfl rfl rfl rfl rfl ?_
      refine asg rfl rfl rfl rfl rfl ?_
      refine TL'.nil (tN ?_)
      refine T.ret ?_
      refine Fin.turn (Turn.sealX 0 rfl) ?_
      refine Fin.turn (Turn.view 2 0 rfl rfl) ?_
      exact Fin.doneK (.cons _ _ _ _ (.tmp 2 _ rfl) .nil) (.cons 1 rfl (.nil _)) (by cases h; exact ⟨rfl, rfl⟩)
theorem bset_Spans_T (K : Nat) {x0 : Arr4} {r : List Arr2} (h : bset_Spans K x0 = some r) : CallR Tryd.prog 28 [.agg (Arr4.dc .u64 x0)] [.ro 2 deBruijnD] (.sl false 2 (r.map (Arr2.dc .u8))) := by
 refine CallT.intro Tryd.func28 rfl (nb rfl) ?_
 show T Tryd.prog 36 (Code.at [] (codeOf Tryd.f28)) ⟨paramSlots 0 [.agg (Arr4.dc .u64 x0)], [.ro 2 deBruijnD]⟩ (bset_Spans_q r)
 unfold bset_Spans at h
 refine T.seq (T.rL ?_)
 refine sp rfl (OpT.boxAgg rfl (dk rfl) rfl (fun d => ?_))
 refine aw rfl ?_
 refine TL'.nil (tN (T.seq (T.rL ?_)))
 refine aw rfl ?_
 refine TL'.nil (tN (T.seq (T.rL ?_)))
 refine aw rfl ?_
 refine TL'.nil (tN ?_)
 refine T.seq ?_
 refine T.seq (T.rL ?_)
 refine sp rfl (OpT.lBAgg (i := 0) (l := (Arr4.dc .u64 x0)) rfl (dk rfl) ul25 rfl i25 rfl rfl rfl rfl ?_)
 obtain ⟨a, b, h⟩ := bind_some h
 refine sp rfl (OpT.callRoA rfl (dk rfl) Tryd.func53 rfl rfl (Args.cons rfl Args.nil) (.cons 1 rfl (.nil)) (bset_List_T K b) ?_)
 refine sp rfl (OpT.lenSlM (xs := a) (f := (cI .u8)) rfl (dk rfl) ul32 rfl ?_)
 refine mw rfl ?_
 refine TL'.nil (tN ?_)
 refine T.block ?_
 refine T.loop ?_
 refine TL.by_turn (Turn.nilX 56 2) ?_
 refine TL.by_turn ?_ (bset_Spans_l0_T K K (-2 : Int) a (a.length : Int) (0 : Int) [] (nilv 2) h)
 exact Turn.rp (.cons rfl (.cons rfl (.cons rfl (.cons rfl (.cons rfl (.nil _)))))) (.c .z (.c (.s .z) (.n _)))
abbrev bset_Of_q (r : Arr4) : Exit → St → Prop := retS Tryd.prog Tryd.f30 (fun y t => y = (.agg (Arr4.dc .u64 r)) ∧ t = [])
abbrev bset_Of_qs111 (r : Arr4) : Exit → St → Prop := thenS (fun s' => T Tryd.prog 23 (Code.at [1, 1, 1] (codeOf Tryd.f30)) s' ((bset_Of_q r))) ((bset_Of_q r))
abbrev bset_Of_qb0x111 (r : Arr4) : Exit → St → Prop := inBlockS 0 ((bset_Of_qs111 r))
theorem bset_Of_l0_T {r : Arr4} (K : Nat) : ∀ (k : Nat), ∀ (x0 : List Int) (j : Int) (m : Int) (p : Arr4) (b : Arr4) (flx0 : Bool) (q : Nat) (s : Nat), bset_Of_l0 K k x0 j m p b = some r → TL Tryd.prog 23 (Code.at [1, 1, 0, 1, 0, 0] (codeOf Tryd.f30)) ⟨[(2, .ptr q 0), (3, .ptr s 0), (6, .sl flx0 1 (x0.map (cI .u8))), (7, .int .i64 j), (8, .int .i64 m)], [.box q 25 (Arr4.oc .u64 p), .box s 25 (Arr4.oc .u64 b)]⟩ (bset_Of_qb0x111 r) := by
  intro k
  induction k with
  | zero =>
    intro x0 j m p b flx0 q s h
    cases (show (none : Option Arr4) = some r from h)
  | succ k ih =>
    intro x0 j m p b flx0 q s h
    rw [bset_Of_l0] at h
    refine TL.round ?_
    refine T.seq ?_
    refine T.rL ?_
    refine sp rfl (OpT.int2 rfl rfl (dl rfl rfl) rfl rfl ?_)
    refine TL'.nil (tN ?_)
    refine T.seq ?_
    rcases bif_some h with ⟨u, h⟩ | ⟨u, h⟩
    · refine T.condT rfl u ?_
      refine T.skip (tN ?_)
      refine T.seq ?_
      refine T.block ?_
      refine T.seq ?_
      refine T.rL ?_
      obtain ⟨g, w, h⟩ := bind_some h
      refine sp rfl (OpT.indexSlM (xs := x0) (f := (cI .u8)) (v := g) rfl (dl rfl rfl) Tryd.underlying32 i5 rfl rfl w ?_)
      refine sp rfl (OpT.loadRef rfl (dl rfl rfl) Tryd.underlying5 rfl rfl rfl ?_)
      refine asg rfl rfl rfl rfl rfl ?_
      refine TL'.nil (tN ?_)
      refine T.rL ?_
      refine mv rfl rfl rfl rfl rfl ?_
      refine sp rfl (OpT.quo rfl (dl rfl rfl) rfl rfl (by decide) ?_)
      obtain ⟨d, h⟩ := ck_some h
      refine sp rfl (OpT.indexPtr rfl (dl rfl rfl) Tryd.underlying25 i23 rfl rfl d.1 d.2 ?_)
      refine sp rfl (OpT.lB (i := 1) rfl (dl rfl rfl) Tryd.underlying23 rfl rfl rfl (Arr4.oc_get (k := .u64) (a := b) (pre := []) (post := []) d.1 d.2) ?_)
      refine mv rfl rfl rfl rfl rfl ?_
      refine sp rfl (OpT.rem rfl (dl rfl rfl) rfl rfl (by decide) ?_)
      obtain ⟨y, h⟩ := ck_some h
      refine sp rfl (OpT.shl rfl (dl rfl rfl) rfl rfl y ?_)
      refine sp rfl (OpT.int2 rfl rfl (dl rfl rfl) rfl rfl ?_)
      refine sp rfl (OpT.indexPtr rfl (dl rfl rfl) Tryd.underlying25 i23 rfl rfl d.1 d.2 ?_)
      refine sp rfl (OpT.sT (i := 1) (cells' := (Arr4.oc .u64 (Arr4.set b (IntKind.u8.wrap (Int.tdiv g (64 : Int))) (bits .or .u64 (Arr4.get b (IntKind.u8.wrap (Int.tdiv g (64 : Int)))) (IntKind.u64.wrap ((1 : Int) * 2 ^ min (Int.toNat (Int.tmod g (64 : Int))) IntKind.u64.bits)))))) rfl rfl i23 rfl rfl rfl (Arr4.oc_lt (k := .u64) (a := b) (pre := []) (post := []) d.1 d.2) (Arr4.oc_set (k := .u64) (a := b) (pre := []) (post := []) d.1 d.2) ?_)
      refine TL'.nil (inBlock_normal (tN ?_))
      refine T.rL ?_
      refine sp rfl (OpT.int2 rfl rfl (dl rfl rfl) rfl rfl ?_)
      refine mv rfl rfl rfl rfl rfl ?_
      refine TL'.nil (tN ?_)
      refine TL.by_turn ?_ (ih x0 j (wI (m + (1 : Int))) p (Arr4.set b (IntKind.u8.wrap (Int.tdiv g (64 : Int))) (bits .or .u64 (Arr4.get b (IntKind.u8.wrap (Int.tdiv g (64 : Int)))) (IntKind.u64.wrap ((1 : Int) * 2 ^ min (Int.toNat (Int.tmod g (64 : Int))) IntKind.u64.bits)))) flx0 q s h)
      exact Turn.rp (.cons rfl (.cons rfl (.cons rfl (.cons rfl (.cons rfl (.nil _)))))) (.c .z (.c .z (.n _)))
    · refine T.condF rfl u ?_
      refine T.exit (thenS_exit (thenS_exit (inBlock_exit (tN ?_))))
      refine T.seq ?_
      refine T.rL ?_
      refine sp rfl (OpT.lBAgg (i := 1) (l := (Arr4.dc .u64 b)) rfl (dl rfl rfl) Tryd.underlying25 rfl i25 rfl rfl rfl rfl ?_)
      refine sp rfl (OpT.storeAggTo (i := 0) (cells' := (Arr4.oc .u64 b)) rfl rfl i25 rfl rfl rfl rfl (Nat.le_of_ble_eq_true rfl) rfl ?_)
      refine TL'.nil (tN ?_)
      refine T.ret ?_
      exact Fin.done (.cons _ _ _ _ (.cellAgg 2 25 _ 0 0 25 _ (Arr4.dc .u64 b) _ _ 4 _ rfl rfl rfl rfl Tryd.underlying25 rfl i25) .nil) (by cases h; exact ⟨rfl, rfl⟩)
theorem bset_Of_T (K : Nat) {x0 : List Int} {flx0 : Bool} {r : Arr4} (h : bset_Of K x0 = some r) : CallR Tryd.prog 30 [.sl flx0 1 (x0.map (cI .u8))] [] (.agg (Arr4.dc .u64 r)) := by
 refine CallT.intro Tryd.func30 rfl (nb rfl) ?_
 show T Tryd.prog 23 (Code.at [] (codeOf Tryd.f30)) ⟨paramSlots 0 [.sl flx0 1 (x0.map (cI .u8))], []⟩ (bset_Of_q r)
 unfold bset_Of at h
 refine T.seq (T.rL ?_)
 refine sp rfl (OpT.alloc' rfl (dk rfl) i25 rfl (fun a => ?_))
 refine TL'.nil (tN (T.seq (T.rL ?_)))
 refine sp rfl (OpT.alloc' rfl (dk rfl) i25 rfl (fun b => ?_))
 refine TL'.nil (tN ?_)
 refine T.seq ?_
 refine T.seq (T.rL ?_)
 refine mw rfl ?_
 refine sp rfl (OpT.lenSlM (xs := x0) (f := (cI .u8)) rfl (dk rfl) ul32 rfl ?_)
 refine mw rfl ?_
 refine TL'.nil (tN ?_)
 refine T.block ?_
 refine T.loop ?_
 refine TL.by_turn ?_ (bset_Of_l0_T K K x0 (x0.length : Int) (0 : Int) (Arr4.mk 0 0 0 0) (Arr4.mk 0 0 0 0) flx0 a b h)
 exact Turn.rp (.cons rfl (.cons rfl (.cons rfl (.cons rfl (.cons rfl (.nil _)))))) (.c (.s .z) (.c .z (.n _)))
abbrev bset_Not_q (r : Arr4) : Exit → St → Prop := retS Tryd.prog Tryd.f29 (fun y t => y = (.agg (Arr4.dc .u64 r)) ∧ t = [])
abbrev bset_Not_qs11 (r : Arr4) : Exit → St → Prop := thenS (fun s' => T Tryd.prog 16 (Code.at [1, 1] (codeOf Tryd.f29)) s' ((bset_Not_q r))) ((bset_Not_q r))
abbrev bset_Not_qb0x11 (r : Arr4) : Exit → St → Prop := inBlockS 0 ((bset_Not_qs11 r))
theorem bset_Not_l0_T {r : Arr4} (K : Nat) : ∀ (k : Nat), ∀ (x0 : Arr4) (f : Int) (b : Arr4) (g : Arr4) (j : Nat) (m : Nat), bset_Not_l0 K k x0 f b g = some r → TL Tryd.prog 16 (Code.at [1, 0, 1, 0, 0] (codeOf Tryd.f29)) ⟨[(1, .ptr j 0), (2, .ptr m 0), (5, .agg (Arr4.dc .u64 x0)), (6, .int .i64 f)], [.box j 25 (Arr4.oc .u64 b), .box m 25 (Arr4.oc .u64 g)]⟩ (bset_Not_qb0x11 r) := by
  intro k
  induction k with
  | zero =>
    intro x0 f b g j m h
    cases (show (none : Option Arr4) = some r from h)
  | succ k ih =>
    intro x0 f b g j m h
    rw [bset_Not_l0] at h
    refine TL.round ?_
    refine T.seq ?_
    refine T.rL ?_
    refine sp rfl (OpT.int2 rfl rfl (dl rfl rfl) rfl rfl ?_)
    refine TL'.nil (tN ?_)
    refine T.seq ?_
    rcases bif_some h with ⟨p, h⟩ | ⟨p, h⟩
    · refine T.condT rfl p ?_
      refine T.skip (tN ?_)
      refine T.seq ?_
      refine T.block ?_
      refine T.seq ?_
      refine T.rL ?_
      refine mv rfl rfl rfl rfl rfl ?_
      obtain ⟨d, h⟩ := ck_some h
      refine sp rfl (OpT.indexArr rfl (dl rfl rfl) Tryd.underlying25 Tryd.underlying23 rfl i23 rfl rfl d.1 d.2 (Arr4.dc_get (a := x0) (k := .u64) d.1 d.2) ?_)
      refine asg rfl rfl rfl rfl rfl ?_
      refine asg rfl rfl rfl rfl rfl ?_
      refine TL'.nil (tN ?_)
      refine T.rL ?_
      refine mv rfl rfl rfl rfl rfl ?_
      refine mv rfl rfl rfl rfl rfl ?_
      refine sp rfl (OpT.compl rfl (dl rfl rfl) rfl ?_)
      refine sp rfl (OpT.indexPtr rfl (dl rfl rfl) Tryd.underlying25 i23 rfl rfl d.1 d.2 ?_)
      refine sp rfl (OpT.sT (i := 0) (cells' := (Arr4.oc .u64 (Arr4.set b f (bits .xor .u64 IntKind.u64.max (Arr4.get x0 f))))) rfl rfl i23 rfl rfl rfl (Arr4.oc_lt (k := .u64) (a := b) (pre := []) (post := []) d.1 d.2) (Arr4.oc_set (k := .u64) (a := b) (pre := []) (post := []) d.1 d.2) ?_)
      refine TL'.nil (inBlock_normal (tN ?_))
      refine T.rL ?_
      refine sp rfl (OpT.int2 rfl rfl (dl rfl rfl) rfl rfl ?_)
      refine mv rfl rfl rfl rfl rfl ?_
      refine TL'.nil (tN ?_)
      refine TL.by_turn ?_ (ih x0 (wI (f + (1 : Int))) (Arr4.set b f (bits .xor .u64 IntKind.u64.max (Arr4.get x0 f))) g j m h)
      exact Turn.rp (.cons rfl (.cons rfl (.cons rfl (.cons rfl (.nil _))))) (.c .z (.c .z (.n _)))
    · refine T.condF rfl p ?_
      refine T.exit (thenS_exit (thenS_exit (inBlock_exit (tN ?_))))
      refine T.seq ?_
      refine T.rL ?_
      refine sp rfl (OpT.lBAgg (i := 0) (l := (Arr4.dc .u64 b)) rfl (dl rfl rfl) Tryd.underlying25 rfl i25 rfl rfl rfl rfl ?_)
      refine sp rfl (OpT.storeAggTo (i := 1) (cells' := (Arr4.oc .u64 b)) rfl rfl i25 rfl rfl rfl rfl (Nat.le_of_ble_eq_true rfl) rfl ?_)
      refine TL'.nil (tN ?_)
      refine T.ret ?_
      exact Fin.done (.cons _ _ _ _ (.cellAgg 2 25 _ 0 1 25 _ (Arr4.dc .u64 b) _ _ 4 _ rfl rfl rfl rfl Tryd.underlying25 rfl i25) .nil) (by cases h; exact ⟨rfl, rfl⟩)
theorem bset_Not_T (K : Nat) {x0 : Arr4} {r : Arr4} (h : bset_Not K x0 = some r) : CallR Tryd.prog 29 [.agg (Arr4.dc .u64 x0)] [] (.agg (Arr4.dc .u64 r)) := by
 refine CallT.intro Tryd.func29 rfl (nb rfl) ?_
 show T Tryd.prog 16 (Code.at [] (codeOf Tryd.f29)) ⟨paramSlots 0 [.agg (Arr4.dc .u64 x0)], []⟩ (bset_Not_q r)
 unfold bset_Not at h
 refine T.seq (T.rL ?_)
 refine sp rfl (OpT.boxAgg rfl (dk rfl) rfl (fun a => ?_))
 refine sp rfl (OpT.alloc' rfl (dk rfl) i25 rfl (fun b => ?_))
 refine TL'.nil (tN ?_)
 refine T.seq ?_
 refine T.seq (T.rL ?_)
 refine sp rfl (OpT.lBAgg (i := 1) (l := (Arr4.dc .u64 x0)) rfl (dk rfl) ul25 rfl i25 rfl rfl rfl rfl ?_)
 refine mw rfl ?_
 refine TL'.nil (tN ?_)
 refine T.block ?_
 refine T.loop ?_
 refine TL.by_turn ?_ (bset_Not_l0_T K K x0 (0 : Int) x0 (Arr4.mk 0 0 0 0) a b h)
 exact Turn.rp (.cons rfl (.cons rfl (.cons rfl (.cons rfl (.nil _))))) (.c (.s .z) (.c .z (.n _)))
abbrev sB_copyCheck_q (bx0 : Nat) (x0c1 : List Int) (r : Unit) : Exit → St → Prop := retS Tryd.prog Tryd.f54 (fun y t => ∃ γ : Nat → Value, y = (.tup []) ∧ t = [.box bx0 61 [.d (.ptr bx0 0), .d (.ex (γ 0))], .arrX (γ 0) 5 1 0 (x0c1.map (cI .u8))])
theorem sB_copyCheck_T (K : Nat) {x0c1 : List Int} {bx0 : Nat} {wx0c1 : Value} {r : Unit} (h : sB_copyCheck K x0c1 = some r) : CallG Tryd.prog 54 [.ptr bx0 0] [.box bx0 61 [.d (.ex (.pointer none)), .d (.ex wx0c1)], .arrX wx0c1 5 1 0 (x0c1.map (cI .u8))] (fun γ => (.tup [])) (fun γ => [.box bx0 61 [.d (.ptr bx0 0), .d (.ex (γ 0))], .arrX (γ 0) 5 1 0 (x0c1.map (cI .u8))]) := by
 refine CallT.intro Tryd.func54 rfl (nb rfl) ?_
 show T Tryd.prog 20 (Code.at [] (codeOf Tryd.f54)) ⟨paramSlots 0 [.ptr bx0 0], [.box bx0 61 [.d (.ex (.pointer none)), .d (.ex wx0c1)], .arrX wx0c1 5 1 0 (x0c1.map (cI .u8))]⟩ (sB_copyCheck_q bx0 x0c1 r)
 unfold sB_copyCheck at h
 refine T.seq (T.rL ?_)
 refine mw rfl ?_
 refine sp rfl (OpT.nilCheck rfl (dk rfl) rfl rfl ?_)
 refine sp rfl (OpT.fP rfl (dk rfl) ul61 rfl i59 (by decide) rfl ?_)
 refine sp rfl (OpT.lB (i := 0) rfl (dk rfl) ul59 rfl rfl rfl rfl ?_)
 refine sp rfl (OpT.eqlPtrNil rfl (dk rfl) ul59 rfl rfl ?_)
 refine TL'.nil (tN ?_)
 refine T.condT rfl rfl ?_
 refine T.rL ?_
 refine mw rfl ?_
 refine mw rfl ?_
 refine sp rfl (OpT.toUnsafe (i := 0) rfl (dk rfl) ul59 ul99 i61 (by decide) rfl rfl (Nat.zero_lt_succ _) ?_)
 refine sp rfl (OpT.noEscape rfl (dk rfl) Tryd.func72 rfl rfl (by kernel_rfl) (by kernel_rfl) rfl rfl ?_)
 refine sp rfl (OpT.ofUnsafe (i := 0) rfl (dk rfl) ul99 ul59 i61 rfl rfl rfl (by kernel_rfl) ?_)
 refine sp rfl (OpT.nilCheck rfl (dk rfl) rfl rfl ?_)
 refine sp rfl (OpT.fP rfl (dk rfl) ul61 rfl i59 (by decide) rfl ?_)
 refine sp rfl (OpT.sT (i := 0) (cells' := [.d (.ptr bx0 0), .d (.ex wx0c1)]) rfl rfl i59 rfl rfl rfl (nb rfl) rfl ?_)
 refine TL'.nil ?_
 exact Fin.doneK (.nil) (.cons 0 rfl (.cons 0 rfl (.nil _))) (by cases h; exact ⟨gl [wx0c1], rfl, rfl⟩)
abbrev sB_WriteString_q (bx0 : Nat) (r : Int × Unit × (List Int)) : Exit → St → Prop := retS Tryd.prog Tryd.f31 (fun y t => ∃ γ : Nat → Value, y = (.tup [.int .i64 r.1, .c (.ex .nilIface)]) ∧ t = [.box bx0 61 [.d (.ptr bx0 0), .d (.ex (γ 0))], .arrX (γ 0) 5 1 0 (r.2.2.map (cI .u8))])
theorem sB_WriteString_T (K : Nat) {x0c1 : List Int} {x1 : ByteArray} {bx0 : Nat} {wx0c1 : Value} {r : Int × Unit × (List Int)} (h : sB_WriteString K x0c1 x1 = some r) : CallG Tryd.prog 31 [.ptr bx0 0, .str x1] [.box bx0 61 [.d (.ex (.pointer none)), .d (.ex wx0c1)], .arrX wx0c1 5 1 0 (x0c1.map (cI .u8))] (fun γ => (.tup [.int .i64 r.1, .c (.ex .nilIface)])) (fun γ => [.box bx0 61 [.d (.ptr bx0 0), .d (.ex (γ 0))], .arrX (γ 0) 5 1 0 (r.2.2.map (cI .u8))]) := by
 refine CallT.intro Tryd.func31 rfl (nb rfl) ?_
 show T Tryd.prog 19 (Code.at [] (codeOf Tryd.f31)) ⟨paramSlots 0 [.ptr bx0 0, .str x1], [.box bx0 61 [.d (.ex (.pointer none)), .d (.ex wx0c1)], .arrX wx0c1 5 1 0 (x0c1.map (cI .u8))]⟩ (sB_WriteString_q bx0 r)
 unfold sB_WriteString at h
 refine T.seq (T.rL ?_)
 refine aw rfl ?_
 refine aw rfl ?_
 refine TL'.nil (tN (T.seq (T.rL ?_)))
 refine mw rfl ?_
 obtain ⟨g, b, h⟩ := bind_some h
 refine sp rfl (OpT.callG (is := [0, 1]) (ph := []) rfl (dk rfl) Tryd.func54 rfl rfl (Args.cons rfl Args.nil) (sB_copyCheck_T K (bx0 := bx0) (wx0c1 := wx0c1) b) (.cons rfl rfl (.cons rfl rfl (.nil))) (fun _ => rfl) (fun j => ?_))
 refine nm (.c (.c (.n))) ?_
 refine TL'.nil (tN (T.seq (T.rL ?_)))
 refine mw rfl ?_
 refine mw rfl ?_
 refine sp rfl (OpT.nilCheck rfl (dk rfl) rfl rfl ?_)
 refine sp rfl (OpT.fP rfl (dk rfl) ul61 rfl i32 (by decide) rfl ?_)
 refine sp rfl (OpT.lB (i := 0) rfl (dk rfl) ul32 rfl rfl rfl rfl ?_)
 refine mw rfl ?_
 obtain ⟨f, h⟩ := ck_some h
 refine sp rfl (OpT.appendStrXM (i := 1) (xs := x0c1) rfl (dk rfl) ul32 ul9 i5 rfl rfl rfl rfl f (fun a => ?_))
 refine sp rfl (OpT.nilCheck rfl (dk rfl) rfl rfl ?_)
 refine sp rfl (OpT.fP rfl (dk rfl) ul61 rfl i32 (by decide) rfl ?_)
 refine sp rfl (OpT.sT (i := 0) (cells' := [.d (.ptr bx0 0), .d (.ex a)]) rfl rfl i32 rfl rfl rfl (nb rfl) rfl ?_)
 refine TL'.nil (tN (T.seq (T.rL ?_)))
 refine mw rfl ?_
 refine sp rfl (OpT.lenStr rfl (dk rfl) ul9 rfl ?_)
 refine aw rfl ?_
 refine aw rfl ?_
 refine TL'.nil (tN ?_)
 refine T.ret ?_
 exact Fin.doneK (.cons _ _ _ _ (.tmp 4 _ rfl) (.cons _ _ _ _ (.tmp 5 _ rfl) .nil)) (.cons 0 rfl (.cons 0 rfl (.nil _))) (by cases h; exact ⟨gl [a], rfl, rfl⟩)
abbrev sB_copyCheck_i1_q (bx0 : Nat) (x0c1 : List Int) (r : Unit) : Exit → St → Prop := retS Tryd.prog Tryd.f54 (fun y t => ∃ γ : Nat → Value, y = (.tup []) ∧ t = [.box bx0 61 [.d (.ptr bx0 0), .d (.ex (γ 0))], .arrX (γ 0) 5 1 0 (x0c1.map (cI .u8))])
theorem sB_copyCheck_i1_T (K : Nat) {x0c1 : List Int} {bx0 : Nat} {wx0c1 : Value} {r : Unit} (h : sB_copyCheck_i1 K x0c1 = some r) : CallG Tryd.prog 54 [.ptr bx0 0] [.box bx0 61 [.d (.ptr bx0 0), .d (.ex wx0c1)], .arrX wx0c1 5 1 0 (x0c1.map (cI .u8))] (fun γ => (.tup [])) (fun γ => [.box bx0 61 [.d (.ptr bx0 0), .d (.ex (γ 0))], .arrX (γ 0) 5 1 0 (x0c1.map (cI .u8))]) := by
 refine CallT.intro Tryd.func54 rfl (nb rfl) ?_
 show T Tryd.prog 20 (Code.at [] (codeOf Tryd.f54)) ⟨paramSlots 0 [.ptr bx0 0], [.box bx0 61 [.d (.ptr bx0 0), .d (.ex wx0c1)], .arrX wx0c1 5 1 0 (x0c1.map (cI .u8))]⟩ (sB_copyCheck_i1_q bx0 x0c1 r)
 unfold sB_copyCheck_i1 at h
 refine T.seq (T.rL ?_)
 refine mw rfl ?_
 refine sp rfl (OpT.nilCheck rfl (dk rfl) rfl rfl ?_)
 refine sp rfl (OpT.fP rfl (dk rfl) ul61 rfl i59 (by decide) rfl ?_)
 refine sp rfl (OpT.lB (i := 0) rfl (dk rfl) ul59 rfl rfl rfl rfl ?_)
 refine sp rfl (OpT.eqlPtrSome rfl (dk rfl) ul59 rfl rfl ?_)
 refine TL'.nil (tN ?_)
 refine T.condF rfl rfl ?_
 refine T.seq (T.rL ?_)
 refine mw rfl ?_
 refine sp rfl (OpT.nilCheck rfl (dk rfl) rfl rfl ?_)
 refine sp rfl (OpT.fP rfl (dk rfl) ul61 rfl i59 (by decide) rfl ?_)
 refine sp rfl (OpT.lB (i := 0) rfl (dk rfl) ul59 rfl rfl rfl rfl ?_)
 refine mw rfl ?_
 refine sp rfl (OpT.neqPtrSame rfl (dk rfl) ul59 i61 rfl rfl ?_)
 refine TL'.nil (tN ?_)
 refine T.condF rfl rfl ?_
 refine T.skip ?_
 exact Fin.doneK (.nil) (.cons 0 rfl (.cons 0 rfl (.nil _))) (by cases h; exact ⟨gl [wx0c1], rfl, rfl⟩)
abbrev sB_WriteString_i1_q (bx0 : Nat) (r : Int × Unit × (List Int)) : Exit → St → Prop := retS Tryd.prog Tryd.f31 (fun y t => ∃ γ : Nat → Value, y = (.tup [.int .i64 r.1, .c (.ex .nilIface)]) ∧ t = [.box bx0 61 [.d (.ptr bx0 0), .d (.ex (γ 0))], .arrX (γ 0) 5 1 0 (r.2.2.map (cI .u8))])
theorem sB_WriteString_i1_T (K : Nat) {x0c1 : List Int} {x1 : ByteArray} {bx0 : Nat} {wx0c1 : Value} {r : Int × Unit × (List Int)} (h : sB_WriteString_i1 K x0c1 x1 = some r) : CallG Tryd.prog 31 [.ptr bx0 0, .str x1] [.box bx0 61 [.d (.ptr bx0 0), .d (.ex wx0c1)], .arrX wx0c1 5 1 0 (x0c1.map (cI .u8))] (fun γ => (.tup [.int .i64 r.1, .c (.ex .nilIface)])) (fun γ => [.box bx0 61 [.d (.ptr bx0 0), .d (.ex (γ 0))], .arrX (γ 0) 5 1 0 (r.2.2.map (cI .u8))]) := by
 refine CallT.intro Tryd.func31 rfl (nb rfl) ?_
 show T Tryd.prog 19 (Code.at [] (codeOf Tryd.f31)) ⟨paramSlots 0 [.ptr bx0 0, .str x1], [.box bx0 61 [.d (.ptr bx0 0), .d (.ex wx0c1)], .arrX wx0c1 5 1 0 (x0c1.map (cI .u8))]⟩ (sB_WriteString_i1_q bx0 r)
 unfold sB_WriteString_i1 at h
 refine T.seq (T.rL ?_)
 refine aw rfl ?_
 refine aw rfl ?_
 refine TL'.nil (tN (T.seq (T.rL ?_)))
 refine mw rfl ?_
 obtain ⟨g, b, h⟩ := bind_some h
 refine sp rfl (OpT.callG (is := [0, 1]) (ph := []) rfl (dk rfl) Tryd.func54 rfl rfl (Args.cons rfl Args.nil) (sB_copyCheck_i1_T K (bx0 := bx0) (wx0c1 := wx0c1) b) (.cons rfl rfl (.cons rfl rfl (.nil))) (fun _ => rfl) (fun j => ?_))
 refine nm (.c (.c (.n))) ?_
 refine TL'.nil (tN (T.seq (T.rL ?_)))
 refine mw rfl ?_
 refine mw rfl ?_
 refine sp rfl (OpT.nilCheck rfl (dk rfl) rfl rfl ?_)
 refine sp rfl (OpT.fP rfl (dk rfl) ul61 rfl i32 (by decide) rfl ?_)
 refine sp rfl (OpT.lB (i := 0) rfl (dk rfl) ul32 rfl rfl rfl rfl ?_)
 refine mw rfl ?_
 obtain ⟨f, h⟩ := ck_some h
 refine sp rfl (OpT.appendStrXM (i := 1) (xs := x0c1) rfl (dk rfl) ul32 ul9 i5 rfl rfl rfl rfl f (fun a => ?_))
 refine sp rfl (OpT.nilCheck rfl (dk rfl) rfl rfl ?_)
 refine sp rfl (OpT.fP rfl (dk rfl) ul61 rfl i32 (by decide) rfl ?_)
 refine sp rfl (OpT.sT (i := 0) (cells' := [.d (.ptr bx0 0), .d (.ex a)]) rfl rfl i32 rfl rfl rfl (nb rfl) rfl ?_)
 refine TL'.nil (tN (T.seq (T.rL ?_)))
 refine mw rfl ?_
 refine sp rfl (OpT.lenStr rfl (dk rfl) ul9 rfl ?_)
 refine aw rfl ?_
 refine aw rfl ?_
 refine TL'.nil (tN ?_)
 refine T.ret ?_
 exact Fin.doneK (.cons _ _ _ _ (.tmp 4 _ rfl) (.cons _ _ _ _ (.tmp 5 _ rfl) .nil)) (.cons 0 rfl (.cons 0 rfl (.nil _))) (by cases h; exact ⟨gl [a], rfl, rfl⟩)
abbrev stringslite_IndexByte_q (r : Int) : Exit → St → Prop := retS Tryd.prog Tryd.f51 (fun y t => y = (.int .i64 r) ∧ t = [])
theorem stringslite_IndexByte_T (K : Nat) {x0 : ByteArray} {x1 : Int} {r : Int} (h : stringslite_IndexByte K x0 x1 = some r) : CallR Tryd.prog 51 [.str x0, .int .u8 x1] [] (.int .i64 r) := by
 refine CallT.intro Tryd.func51 rfl (nb rfl) ?_
 show T Tryd.prog 8 (Code.at [] (codeOf Tryd.f51)) ⟨paramSlots 0 [.str x0, .int .u8 x1], []⟩ (stringslite_IndexByte_q r)
 unfold stringslite_IndexByte at h
 refine T.seq (T.rL ?_)
 refine aw rfl ?_
 refine TL'.nil (tN (T.seq (T.rL ?_)))
 refine mw rfl ?_
 refine mw rfl ?_
 refine sp rfl (OpT.indexByteStr rfl (dk rfl) Tryd.func66 rfl rfl (by kernel_rfl) (by kernel_rfl) rfl rfl ?_)
 refine aw rfl ?_
 refine TL'.nil (tN ?_)
 refine T.ret ?_
 exact Fin.done (.cons _ _ _ _ (.tmp 4 _ rfl) .nil) (by cases h; exact ⟨rfl, rfl⟩)
abbrev strings_IndexByte_q (r : Int) : Exit → St → Prop := retS Tryd.prog Tryd.f26 (fun y t => y = (.int .i64 r) ∧ t = [])
theorem strings_IndexByte_T (K : Nat) {x0 : ByteArray} {x1 : Int} {r : Int} (h : strings_IndexByte K x0 x1 = some r) : CallR Tryd.prog 26 [.str x0, .int .u8 x1] [] (.int .i64 r) := by
 refine CallT.intro Tryd.func26 rfl (nb rfl) ?_
 show T Tryd.prog 8 (Code.at [] (codeOf Tryd.f26)) ⟨paramSlots 0 [.str x0, .int .u8 x1], []⟩ (strings_IndexByte_q r)
 unfold strings_IndexByte at h
 refine T.seq (T.rL ?_)
 refine aw rfl ?_
 refine TL'.nil (tN (T.seq (T.rL ?_)))
 refine mw rfl ?_
 refine mw rfl ?_
 obtain ⟨b, a, h⟩ := bind_some h
 refine sp rfl (OpT.callPA rfl (dk rfl) Tryd.func51 rfl rfl (Args.cons rfl (Args.cons rfl Args.nil)) (CallR.nil (stringslite_IndexByte_T K a)) ?_)
 refine aw rfl ?_
 refine TL'.nil (tN ?_)
 refine T.ret ?_
 exact Fin.done (.cons _ _ _ _ (.tmp 4 _ rfl) .nil) (by cases h; exact ⟨rfl, rfl⟩)
abbrev strconv_isPowerOfTwo_q (r : Bool) : Exit → St → Prop := retS Tryd.prog Tryd.f86 (fun y t => y = (.bool r) ∧ t = [])
theorem strconv_isPowerOfTwo_T (K : Nat) {x0 : Int} {r : Bool} (h : strconv_isPowerOfTwo K x0 = some r) : CallR Tryd.prog 86 [.int .i64 x0] [] (.bool r) := by
 refine CallT.intro Tryd.func86 rfl (nb rfl) ?_
 show T Tryd.prog 8 (Code.at [] (codeOf Tryd.f86)) ⟨paramSlots 0 [.int .i64 x0], []⟩ (strconv_isPowerOfTwo_q r)
 unfold strconv_isPowerOfTwo at h
 refine T.seq (T.rL ?_)
 refine aw rfl ?_
 refine TL'.nil (tN (T.seq (T.rL ?_)))
 refine mw rfl ?_
 refine mw rfl ?_
 refine sp rfl (OpT.int2 rfl rfl (dk rfl) rfl rfl ?_)
 refine sp rfl (OpT.int2 rfl rfl (dk rfl) rfl rfl ?_)
 refine sp rfl (OpT.int2 rfl rfl (dk rfl) rfl rfl ?_)
 refine aw rfl ?_
 refine TL'.nil (tN ?_)
 refine T.ret ?_
 exact Fin.done (.cons _ _ _ _ (.tmp 2 _ rfl) .nil) (by cases h; exact ⟨rfl, rfl⟩)
abbrev bits_TrailingZeros_q (r : Int) : Exit → St → Prop := retS Tryd.prog Tryd.f87 (fun y t => y = (.int .i64 r) ∧ t = [.ro 2 deBruijnD, .ro 3 deBruijn32D])
theorem bits_TrailingZeros_T (K : Nat) {x0 : Int} {r : Int} (h : bits_TrailingZeros K x0 = some r) : CallR Tryd.prog 87 [.int .u64 x0] [.ro 2 deBruijnD, .ro 3 deBruijn32D] (.int .i64 r) := by
 refine CallT.intro Tryd.func87 rfl (nb rfl) ?_
 show T Tryd.prog 8 (Code.at [] (codeOf Tryd.f87)) ⟨paramSlots 0 [.int .u64 x0], [.ro 2 deBruijnD, .ro 3 deBruijn32D]⟩ (bits_TrailingZeros_q r)
 unfold bits_TrailingZeros at h
 refine T.seq (T.rL ?_)
 refine aw rfl ?_
 refine TL'.nil (tN ?_)
 refine T.seq ?_
 refine T.condF rfl rfl ?_
 refine T.skip (tN ?_)
 refine T.seq (T.rL ?_)
 refine mw rfl ?_
 obtain ⟨b, a, h⟩ := bind_some h
 refine sp rfl (OpT.callRoA rfl (dk rfl) Tryd.func71 rfl rfl (Args.cons rfl Args.nil) (.cons 0 rfl (.nil)) (bits_TrailingZeros64_T K a) ?_)
 refine aw rfl ?_
 refine TL'.nil (tN ?_)
 refine T.ret ?_
 exact Fin.doneK (.cons _ _ _ _ (.tmp 2 _ rfl) .nil) (.cons 0 rfl (.cons 0 rfl (.nil _))) (by cases h; exact ⟨rfl, rfl⟩)
abbrev strconv_formatBits_q (r : (List Int) × ByteArray) : Exit → St → Prop := retS Tryd.prog Tryd.f70 (fun y t => y = (.tup [.sl false 1 (r.1.map (cI .u8)), .str r.2]) ∧ t = [.ro 2 deBruijnD, .ro 3 deBruijn32D])
abbrev strconv_formatBits_qs11 (r : (List Int) × ByteArray) : Exit → St → Prop := thenS (fun s' => T Tryd.prog 102 (Code.at [1, 1] (codeOf Tryd.f70)) s' ((strconv_formatBits_q r))) ((strconv_formatBits_q r))
abbrev strconv_formatBits_qs111111 (r : (List Int) × ByteArray) : Exit → St → Prop := thenS (fun s' => T Tryd.prog 102 (Code.at [1, 1, 1, 1, 1, 1] (codeOf Tryd.f70)) s' ((strconv_formatBits_q r))) ((strconv_formatBits_q r))
abbrev strconv_formatBits_qs111110101111 (r : (List Int) × ByteArray) : Exit → St → Prop := thenS (fun s' => T Tryd.prog 102 (Code.at [1, 1, 1, 1, 1, 0, 1, 0, 1, 1, 1, 1] (codeOf Tryd.f70)) s' ((strconv_formatBits_qs111111 r))) ((strconv_formatBits_qs111111 r))
abbrev strconv_formatBits_qb0x111110101111 (r : (List Int) × ByteArray) : Exit → St → Prop := inBlockS 0 ((strconv_formatBits_qs111110101111 r))
theorem strconv_formatBits_j0_T {r : (List Int) × ByteArray} (K : Nat) (x0 : List Int) (x1 : Int) (x2 : Int) (x3 : Bool) (x4 : Bool) (flx0 : Bool) (h : strconv_formatBits_j0 K x0 x1 x2 x3 x4 = some r) : T Tryd.prog 102 (Code.at [1, 0, 1, 0] (codeOf Tryd.f70)) ⟨[(0, .sl flx0 1 (x0.map (cI .u8))), (1, .int .u64 x1), (2, .int .i64 x2), (3, .bool x3), (4, .bool x4), (10, .c (.ex (.slice none 0 0))), (11, .str (⟨#[]⟩ : ByteArray))], [.ro 2 deBruijnD, .ro 3 deBruijn32D]⟩ (strconv_formatBits_qs11 r) := by
 unfold strconv_formatBits_j0 at h
 refine T.rL ?_
 cases h
theorem strconv_formatBits_l1_T {r : (List Int) × ByteArray} (K : Nat) : ∀ (k : Nat), ∀ (x0 : List Int) (x1 : Int) (x3 : Bool) (x4 : Bool) (f : Int) (g : Int) (j : Int) (d : ArrN) (flx0 : Bool) (l : Nat), strconv_formatBits_l1 K k x0 x1 x3 x4 f g j d = some r → TL Tryd.prog 102 (Code.at [1, 1, 1, 1, 1, 0, 1, 0, 1, 1, 1, 0, 0, 0] (codeOf Tryd.f70)) ⟨[(0, .sl flx0 1 (x0.map (cI .u8))), (1, .int .u64 x1), (3, .bool x3), (4, .bool x4), (10, .c (.ex (.slice none 0 0))), (11, .str (⟨#[]⟩ : ByteArray)), (12, .ptr l 0), (13, .int .i64 (65 : Int)), (14, .int .u64 f), (15, .int .u64 g), (16, .int .u64 j)], [.box l 107 (ArrN.oc 65 .u8 d), .ro 2 deBruijnD, .ro 3 deBruijn32D]⟩ (strconv_formatBits_qb0x111110101111 r) := by
  intro k
  induction k with
  | zero =>
    intro x0 x1 x3 x4 f g j d flx0 l h
    cases (show (none : Option ((List Int) × ByteArray)) = some r from h)
  | succ k ih =>
    intro x0 x1 x3 x4 f g j d flx0 l h
    rw [strconv_formatBits_l1] at h
    refine TL.round ?_
    refine T.seq ?_
    refine T.seq ?_
    refine T.rL ?_
    refine mv rfl rfl rfl rfl rfl ?_
    refine mv rfl rfl rfl rfl rfl ?_
    refine sp rfl (OpT.int2 rfl rfl (dl rfl rfl) rfl rfl ?_)
    refine TL'.nil (tN ?_)
    rcases bif_some h with ⟨m, h⟩ | ⟨m, h⟩
    · refine T.condT rfl m ?_
      refine T.skip (tN ?_)
      refine T.block ?_
      refine T.seq ?_
      refine T.rL ?_
      cases h
    · refine T.condF rfl m ?_
      refine T.exit (thenS_exit (thenS_exit (inBlock_exit (tN ?_))))
      refine T.seq ?_
      refine T.rL ?_
      refine mv rfl rfl rfl rfl rfl ?_
      refine sp rfl (OpT.int2 rfl rfl (dl rfl rfl) rfl rfl ?_)
      refine asg rfl rfl rfl rfl rfl ?_
      refine TL'.nil (tN ?_)
      refine T.rL ?_
      refine mv rfl rfl rfl rfl rfl ?_
      refine mv rfl rfl rfl rfl rfl ?_
      obtain ⟨s, h⟩ := ck_some h
      refine sp rfl (OpT.indexStr rfl (dl rfl rfl) Tryd.underlying9 rfl rfl s.1 s.2 ?_)
      obtain ⟨b, h⟩ := ck_some h
      refine sp rfl (OpT.indexPtr rfl (dl rfl rfl) Tryd.underlying107 i5 rfl rfl b.1 b.2 ?_)
      refine sp rfl (OpT.sT (i := 0) (cells' := (ArrN.oc 65 .u8 (ArrN.set d (wI ((65 : Int) - (1 : Int))) (bt (⟨#[48, 49, 50, 51, 52, 53, 54, 55, 56, 57, 97, 98, 99, 100, 101, 102, 103, 104, 105, 106, 107, 108, 109, 110, 111, 112, 113, 114, 115, 116, 117, 118, 119, 120, 121, 122]⟩ : ByteArray) x1)))) rfl rfl i5 rfl rfl rfl (ArrN.oc_lt (n := 65) (k := .u8) (a := d) (pre := []) (post := []) b.1 b.2) (ArrN.oc_set (n := 65) (k := .u8) (a := d) (pre := []) (post := []) b.1 b.2) ?_)
      refine TL'.nil (tN ?_)
      refine T.seq ?_
      refine T.seq ?_
      refine T.rL ?_
      refine mv rfl rfl rfl rfl rfl ?_
      refine TL'.nil (tN ?_)
      rcases bif_some h with ⟨p, h⟩ | ⟨p, h⟩
      · refine T.condT rfl p ?_
        refine T.seq ?_
        refine T.rL ?_
        refine mv rfl rfl rfl rfl rfl ?_
        refine sp rfl (OpT.int2 rfl rfl (dl rfl rfl) rfl rfl ?_)
        refine asg rfl rfl rfl rfl rfl ?_
        refine TL'.nil (tN ?_)
        refine T.rL ?_
        cases h
      · refine T.condF rfl p ?_
        refine T.skip (tN ?_)
        refine T.seq ?_
        refine T.seq ?_
        refine T.rL ?_
        refine mv rfl rfl rfl rfl rfl ?_
        refine TL'.nil (tN ?_)
        rcases bif_some h with ⟨q, h⟩ | ⟨q, h⟩
        · refine T.condT rfl q ?_
          refine T.seq ?_
          refine T.rL ?_
          refine mv rfl rfl rfl rfl rfl ?_
          refine mv rfl rfl rfl rfl rfl ?_
          refine sp rfl (OpT.sliceBoxLow rfl (dl rfl rfl) Tryd.underlying107 i5 rfl rfl b ?_)
          cases h
        · refine T.condF rfl q ?_
          refine T.skip (tN ?_)
          refine T.seq ?_
          refine T.rL ?_
          refine mv rfl rfl rfl rfl rfl ?_
          refine sp rfl (OpT.sliceBoxLow rfl (dl rfl rfl) Tryd.underlying107 i5 rfl rfl b ?_)
          refine sp rfl (OpT.convBytesBox (i := 0) (n := 65) (a := (ArrN.set d (wI ((65 : Int) - (1 : Int))) (bt (⟨#[48, 49, 50, 51, 52, 53, 54, 55, 56, 57, 97, 98, 99, 100, 101, 102, 103, 104, 105, 106, 107, 108, 109, 110, 111, 112, 113, 114, 115, 116, 117, 118, 119, 120, 121, 122]⟩ : ByteArray) x1))) rfl (dl rfl rfl) Tryd.underlying32 Tryd.underlying5 Tryd.underlying9 rfl rfl (by have := b; omega) ?_)
          refine asg rfl rfl rfl rfl rfl ?_
          refine TL'.nil (tN ?_)
          refine T.ret ?_
          refine Fin.turn (Turn.nilSl 10 false 1 rfl) ?_
          exact Fin.doneK (.cons _ _ _ _ (.tmp 10 _ rfl) (.cons _ _ _ _ (.tmp 11 _ rfl) .nil)) (.cons 1 rfl (.cons 1 rfl (.nil _))) (by cases h; exact ⟨rfl, rfl⟩)
theorem strconv_formatBits_T (K : Nat) {x0 : List Int} {x1 : Int} {x2 : Int} {x3 : Bool} {x4 : Bool} {flx0 : Bool} {r : (List Int) × ByteArray} (h : strconv_formatBits K x0 x1 x2 x3 x4 = some r) : CallR Tryd.prog 70 [.sl flx0 1 (x0.map (cI .u8)), .int .u64 x1, .int .i64 x2, .bool x3, .bool x4] [.ro 2 deBruijnD, .ro 3 deBruijn32D] (.tup [.sl false 1 (r.1.map (cI .u8)), .str r.2]) := by
 refine CallT.intro Tryd.func70 rfl (nb rfl) ?_
 show T Tryd.prog 102 (Code.at [] (codeOf Tryd.f70)) ⟨paramSlots 0 [.sl flx0 1 (x0.map (cI .u8)), .int .u64 x1, .int .i64 x2, .bool x3, .bool x4], [.ro 2 deBruijnD, .ro 3 deBruijn32D]⟩ (strconv_formatBits_q r)
 unfold strconv_formatBits at h
 refine T.seq (T.rL ?_)
 refine aw rfl ?_
 refine aw rfl ?_
 refine TL'.nil (tN ?_)
 refine T.seq ?_
 refine T.seq (T.rL ?_)
 refine mw rfl ?_
 refine sp rfl (OpT.int2 rfl rfl (dk rfl) rfl rfl ?_)
 refine mw rfl ?_
 rcases bif_some h with ⟨a, h⟩ | ⟨a, h⟩
 refine TL'.pU (.off _ _ _ _ rfl rfl rfl a) (dk rfl) ?_
 refine TL'.pU (.off _ _ _ _ rfl rfl rfl a) (dk rfl) ?_
 refine sp rfl (OpT.pickT rfl (dk rfl) rfl a rfl ?_)
 refine mw rfl ?_
 refine TL'.pU (.off _ _ _ _ rfl rfl rfl rfl) (dk rfl) ?_
 refine TL'.pU (.off _ _ _ _ rfl rfl rfl rfl) (dk rfl) ?_
 refine sp rfl (OpT.pickT rfl (dk rfl) rfl rfl rfl ?_)
 refine TL'.nil (tN ?_)
 refine T.condT rfl rfl ?_
 refine T.by_turn ?_ (strconv_formatBits_j0_T K x0 x1 x2 x3 x4 flx0 h)
 exact Turn.rp (.cons rfl (.cons rfl (.cons rfl (.cons rfl (.cons rfl (.cons rfl (.cons rfl (.nil _)))))))) (.c .z (.c .z (.n _)))
 refine TL'.step (.on rfl rfl rfl a) (OpT.move rfl (dk rfl) rfl ?_)
 refine TL'.step (.on rfl rfl rfl a) (OpT.int2 rfl rfl (dk rfl) rfl rfl ?_)
 refine sp rfl (OpT.pickF rfl (dk rfl) rfl a rfl ?_)
 refine mw rfl ?_
 rcases bif_some h with ⟨b, h⟩ | ⟨b, h⟩
 refine TL'.pU (.off _ _ _ _ rfl rfl rfl b) (dk rfl) ?_
 refine TL'.pU (.off _ _ _ _ rfl rfl rfl b) (dk rfl) ?_
 refine sp rfl (OpT.pickT rfl (dk rfl) rfl b rfl ?_)
 refine TL'.nil (tN ?_)
 refine T.condT rfl rfl ?_
 refine T.by_turn ?_ (strconv_formatBits_j0_T K x0 x1 x2 x3 x4 flx0 h)
 exact Turn.rp (.cons rfl (.cons rfl (.cons rfl (.cons rfl (.cons rfl (.cons rfl (.cons rfl (.nil _)))))))) (.c .z (.c .z (.n _)))
 refine TL'.step (.on rfl rfl rfl b) (OpT.move rfl (dk rfl) rfl ?_)
 refine TL'.step (.on rfl rfl rfl b) (OpT.int2 rfl rfl (dk rfl) rfl rfl ?_)
 refine sp rfl (OpT.pickF rfl (dk rfl) rfl b rfl ?_)
 refine TL'.nil (tN ?_)
 rcases bif_some h with ⟨d, h⟩ | ⟨d, h⟩
 refine T.condT rfl d ?_
 refine T.by_turn ?_ (strconv_formatBits_j0_T K x0 x1 x2 x3 x4 flx0 h)
 exact Turn.rp (.cons rfl (.cons rfl (.cons rfl (.cons rfl (.cons rfl (.cons rfl (.cons rfl (.nil _)))))))) (.c .z (.c .z (.n _)))
 refine T.condF rfl d ?_
 refine T.skip (tN ?_)
 refine T.seq (T.rL ?_)
 refine sp rfl (OpT.alloc' rfl (dk rfl) i107 rfl (fun i => ?_))
 refine TL'.nil (tN (T.seq (T.rL ?_)))
 refine aw rfl ?_
 refine TL'.nil (tN ?_)
 refine T.seq ?_
 refine T.seq (T.rL ?_)
 refine mw rfl ?_
 refine TL'.nil (tN ?_)
 rcases bif_some h with ⟨f, h⟩ | ⟨f, h⟩
 refine T.condT rfl f ?_
 refine T.rL ?_
 cases h
 refine T.condF rfl f ?_
 refine T.skip (tN ?_)
 refine T.seq ?_
 refine T.seq (T.rL ?_)
 refine mw rfl ?_
 obtain ⟨p, j, h⟩ := bind_some h
 refine sp rfl (OpT.callPA rfl (dk rfl) Tryd.func86 rfl rfl (Args.cons rfl Args.nil) (CallR.nil (strconv_isPowerOfTwo_T K j)) ?_)
 refine TL'.nil (tN ?_)
 rcases bif_some h with ⟨g, h⟩ | ⟨g, h⟩
 refine T.condT rfl g ?_
 refine T.seq (T.rL ?_)
 refine mw rfl ?_
 refine sp rfl (OpT.convInt rfl (dk rfl) ul3 ul53 rfl ?_)
 obtain ⟨l, m, h⟩ := bind_some h
 refine sp rfl (OpT.callRoA rfl (dk rfl) Tryd.func87 rfl rfl (Args.cons rfl Args.nil) (.cons 1 rfl (.cons 2 rfl (.nil))) (bits_TrailingZeros_T K m) ?_)
 refine sp rfl (OpT.convInt rfl (dk rfl) ul3 ul53 rfl ?_)
 refine aw rfl ?_
 refine TL'.nil (tN (T.seq (T.rL ?_)))
 refine mw rfl ?_
 refine sp rfl (OpT.convInt rfl (dk rfl) ul3 ul23 rfl ?_)
 refine aw rfl ?_
 refine TL'.nil (tN (T.seq (T.rL ?_)))
 refine mw rfl ?_
 refine sp rfl (OpT.convInt rfl (dk rfl) ul3 ul53 rfl ?_)
 refine sp rfl (OpT.int2 rfl rfl (dk rfl) rfl rfl ?_)
 refine aw rfl ?_
 refine TL'.nil (tN ?_)
 refine T.seq ?_
 refine T.block ?_
 refine T.loop ?_
 refine TL.by_turn ?_ (strconv_formatBits_l1_T K K x0 x1 x3 x4 (IntKind.u64.wrap l) (IntKind.u64.wrap x2) (IntKind.u64.wrap ((IntKind.u64.wrap x2) - (1 : Int))) (ArrN.mk fun _ => 0) flx0 i h)
 exact Turn.rp (.cons rfl (.cons rfl (.cons rfl (.cons rfl (.cons rfl (.cons rfl (.cons rfl (.cons rfl (.cons rfl (.cons rfl (.cons rfl (.nil _)))))))))))) (.c .z (.c .z (.c .z (.n _))))
 refine T.condF rfl g ?_
 refine T.seq (T.rL ?_)
 cases h
abbrev strconv_FormatUint_f52_q (r : ByteArray) : Exit → St → Prop := retS Tryd.prog Tryd.f52 (fun y t => y = (.str r) ∧ t = [.ro 2 deBruijnD, .ro 3 deBruijn32D])
theorem strconv_FormatUint_f52_T (K : Nat) {x0 : Int} {x1 : Int} {r : ByteArray} (h : strconv_FormatUint_f52 K x0 x1 = some r) : CallR Tryd.prog 52 [.int .u64 x0, .int .i64 x1] [.ro 2 deBruijnD, .ro 3 deBruijn32D] (.str r) := by
 refine CallT.intro Tryd.func52 rfl (nb rfl) ?_
 show T Tryd.prog 32 (Code.at [] (codeOf Tryd.f52)) ⟨paramSlots 0 [.int .u64 x0, .int .i64 x1], [.ro 2 deBruijnD, .ro 3 deBruijn32D]⟩ (strconv_FormatUint_f52_q r)
 unfold strconv_FormatUint_f52 at h
 refine T.seq (T.rL ?_)
 refine aw rfl ?_
 refine TL'.nil (tN ?_)
 refine T.seq ?_
 refine T.seq (T.rL ?_)
 refine mw rfl ?_
 refine sp rfl (OpT.int2 rfl rfl (dk rfl) rfl rfl ?_)
 refine TL'.nil (tN ?_)
 rcases bif_some h with ⟨a, h⟩ | ⟨a, h⟩
 refine T.condT rfl a ?_
 refine T.seq ?_
 refine T.seq (T.rL ?_)
 refine mw rfl ?_
 refine sp rfl (OpT.int2 rfl rfl (dk rfl) rfl rfl ?_)
 refine TL'.nil (tN ?_)
 rcases bif_some h with ⟨b, h⟩ | ⟨b, h⟩
 refine T.condT rfl b ?_
 refine T.seq (T.rL ?_)
 refine mw rfl ?_
 refine sp rfl (OpT.convInt rfl (dk rfl) ul23 ul3 rfl ?_)
 cases h
 refine T.condF rfl b ?_
 refine T.skip (tN ?_)
 refine T.seq (T.rL ?_)
 refine sp rfl (OpT.alloc' rfl (dk rfl) i94 rfl (fun d => ?_))
 refine TL'.nil (tN (T.seq (T.rL ?_)))
 refine mw rfl ?_
 cases h
 refine T.condF rfl a ?_
 refine T.skip (tN ?_)
 refine T.seq (T.rL ?_)
 refine mw rfl ?_
 refine mw rfl ?_
 obtain ⟨f, c, h⟩ := bind_some h
 refine sp rfl (OpT.callRoA rfl (dk rfl) Tryd.func70 rfl rfl (Args.nilSl rfl (Args.cons rfl (Args.cons rfl (Args.cons rfl (Args.cons rfl Args.nil))))) (.cons 0 rfl (.cons 1 rfl (.nil))) (strconv_formatBits_T K (flx0 := false) c) ?_)
 refine mw rfl ?_
 refine sp rfl (OpT.extract rfl (dk rfl) rfl rfl ?_)
 refine sp rfl (OpT.extract rfl (dk rfl) rfl rfl ?_)
 refine aw rfl ?_
 refine aw rfl ?_
 refine TL'.nil (tN (T.seq (T.rL ?_)))
 refine mw rfl ?_
 refine aw rfl ?_
 refine TL'.nil (tN ?_)
 refine T.ret ?_
 exact Fin.doneK (.cons _ _ _ _ (.tmp 4 _ rfl) .nil) (.cons 0 rfl (.cons 0 rfl (.nil _))) (by cases h; exact ⟨rfl, rfl⟩)
abbrev strconv_FormatUint_q (r : ByteArray) : Exit → St → Prop := retS Tryd.prog Tryd.f27 (fun y t => y = (.str r) ∧ t = [.ro 2 deBruijnD, .ro 3 deBruijn32D])
theorem strconv_FormatUint_T (K : Nat) {x0 : Int} {x1 : Int} {r : ByteArray} (h : strconv_FormatUint K x0 x1 = some r) : CallR Tryd.prog 27 [.int .u64 x0, .int .i64 x1] [.ro 2 deBruijnD, .ro 3 deBruijn32D] (.str r) := by
 refine CallT.intro Tryd.func27 rfl (nb rfl) ?_
 show T Tryd.prog 8 (Code.at [] (codeOf Tryd.f27)) ⟨paramSlots 0 [.int .u64 x0, .int .i64 x1], [.ro 2 deBruijnD, .ro 3 deBruijn32D]⟩ (strconv_FormatUint_q r)
 unfold strconv_FormatUint at h
 refine T.seq (T.rL ?_)
 refine aw rfl ?_
 refine TL'.nil (tN (T.seq (T.rL ?_)))
 refine mw rfl ?_
 refine mw rfl ?_
 obtain ⟨b, a, h⟩ := bind_some h
 refine sp rfl (OpT.callRoA rfl (dk rfl) Tryd.func52 rfl rfl (Args.cons rfl (Args.cons rfl Args.nil)) (.cons 0 rfl (.cons 1 rfl (.nil))) (strconv_FormatUint_f52_T K a) ?_)
 refine aw rfl ?_
 refine TL'.nil (tN ?_)
 refine T.ret ?_
 exact Fin.doneK (.cons _ _ _ _ (.tmp 4 _ rfl) .nil) (.cons 0 rfl (.cons 0 rfl (.nil _))) (by cases h; exact ⟨rfl, rfl⟩)
abbrev print_Byte_q (r : ByteArray) : Exit → St → Prop := retS Tryd.prog Tryd.f12 (fun y t => y = (.str r) ∧ t = [.ro 2 deBruijnD, .ro 3 deBruijn32D])
abbrev print_Byte_qs11 (r : ByteArray) : Exit → St → Prop := thenS (fun s' => T Tryd.prog 40 (Code.at [1, 1] (codeOf Tryd.f12)) s' ((print_Byte_q r))) ((print_Byte_q r))
abbrev print_Byte_qb0x11 (r : ByteArray) : Exit → St → Prop := inBlockS 0 ((print_Byte_qs11 r))
theorem print_Byte_j0_T {r : ByteArray} (K : Nat) (x0 : Int) (h : print_Byte_j0 K x0 = some r) : T Tryd.prog 40 (Code.at [1, 0, 0, 1, 1, 1, 1, 1, 1, 1, 1, 1, 0] (codeOf Tryd.f12)) ⟨[(0, .int .u8 x0)], [.ro 2 deBruijnD, .ro 3 deBruijn32D]⟩ (print_Byte_qb0x11 r) := by
 unfold print_Byte_j0 at h
 refine T.seq (T.rL ?_)
 refine mw rfl ?_
 refine sp rfl (OpT.shr rfl (dk rfl) rfl rfl (by decide) ?_)
 refine sp rfl (OpT.convInt rfl (dk rfl) ul5 ul23 rfl ?_)
 obtain ⟨f, a, h⟩ := bind_some h
 refine sp rfl (OpT.callRoA rfl (dk rfl) Tryd.func27 rfl rfl (Args.cons rfl (Args.cons rfl Args.nil)) (.cons 0 rfl (.cons 1 rfl (.nil))) (strconv_FormatUint_T K a) ?_)
 obtain ⟨b, h⟩ := ck_some h
 refine sp rfl (OpT.str_add rfl (dk rfl) rfl rfl b ?_)
 refine mw rfl ?_
 refine sp rfl (OpT.int2 rfl rfl (dk rfl) rfl rfl ?_)
 refine sp rfl (OpT.convInt rfl (dk rfl) ul5 ul23 rfl ?_)
 obtain ⟨g, c, h⟩ := bind_some h
 refine sp rfl (OpT.callRoA rfl (dk rfl) Tryd.func27 rfl rfl (Args.cons rfl (Args.cons rfl Args.nil)) (.cons 0 rfl (.cons 1 rfl (.nil))) (strconv_FormatUint_T K c) ?_)
 obtain ⟨d, h⟩ := ck_some h
 refine sp rfl (OpT.str_add rfl (dk rfl) rfl rfl d ?_)
 refine aw rfl ?_
 refine TL'.nil (tN ?_)
 refine T.ret (inBlock_ret (thenS_ret ?_))
 exact Fin.doneK (.cons _ _ _ _ (.tmp 2 _ rfl) .nil) (.cons 0 rfl (.cons 0 rfl (.nil _))) (by cases h; exact ⟨rfl, rfl⟩)
theorem print_Byte_T (K : Nat) {x0 : Int} {r : ByteArray} (h : print_Byte K x0 = some r) : CallR Tryd.prog 12 [.int .u8 x0] [.ro 2 deBruijnD, .ro 3 deBruijn32D] (.str r) := by
 refine CallT.intro Tryd.func12 rfl (nb rfl) ?_
 show T Tryd.prog 40 (Code.at [] (codeOf Tryd.f12)) ⟨paramSlots 0 [.int .u8 x0], [.ro 2 deBruijnD, .ro 3 deBruijn32D]⟩ (print_Byte_q r)
 unfold print_Byte at h
 refine T.seq (T.rL ?_)
 refine aw rfl ?_
 refine TL'.nil (tN ?_)
 refine T.seq ?_
 refine T.block ?_
 refine T.seq (T.rL ?_)
 refine mw rfl ?_
 obtain ⟨m, j, h⟩ := bind_some h
 refine sp rfl (OpT.callPA rfl (dk rfl) Tryd.func26 rfl rfl (Args.cons rfl (Args.cons rfl Args.nil)) (CallR.nil (strings_IndexByte_T K j)) ?_)
 refine sp rfl (OpT.int2 rfl rfl (dk rfl) rfl rfl ?_)
 refine aw rfl ?_
 refine TL'.nil (tN ?_)
 rcases bif_some h with ⟨b, h⟩ | ⟨b, h⟩
 refine T.condT rfl b ?_
 refine T.seq (T.rL ?_)
 refine mw rfl ?_
 refine sp rfl (OpT.convInt rfl (dk rfl) ul5 ul21 rfl ?_)
 refine sp rfl (OpT.convRune rfl (dk rfl) ul21 ul9 rfl ?_)
 obtain ⟨l, h⟩ := ck_some h
 refine sp rfl (OpT.str_add rfl (dk rfl) rfl rfl l ?_)
 refine aw rfl ?_
 refine TL'.nil (tN ?_)
 refine T.ret (inBlock_ret (thenS_ret ?_))
 exact Fin.doneK (.cons _ _ _ _ (.tmp 2 _ rfl) .nil) (.cons 0 rfl (.cons 0 rfl (.nil _))) (by cases h; exact ⟨rfl, rfl⟩)
 refine T.condF rfl b ?_
 refine T.seq (T.rL ?_)
 refine mw rfl ?_
 refine sp rfl (OpT.int2 rfl rfl (dk rfl) rfl rfl ?_)
 refine aw rfl ?_
 refine TL'.nil (tN ?_)
 rcases bif_some h with ⟨d, h⟩ | ⟨d, h⟩
 refine T.condT rfl d ?_
 refine T.seq (T.rL ?_)
 refine aw rfl ?_
 refine TL'.nil (tN ?_)
 refine T.ret (inBlock_ret (thenS_ret ?_))
 exact Fin.doneK (.cons _ _ _ _ (.tmp 2 _ rfl) .nil) (.cons 0 rfl (.cons 0 rfl (.nil _))) (by cases h; exact ⟨rfl, rfl⟩)
 refine T.condF rfl d ?_
 refine T.seq (T.rL ?_)
 refine mw rfl ?_
 refine sp rfl (OpT.int2 rfl rfl (dk rfl) rfl rfl ?_)
 refine aw rfl ?_
 refine TL'.nil (tN ?_)
 rcases bif_some h with ⟨f, h⟩ | ⟨f, h⟩
 refine T.condT rfl f ?_
 refine T.seq (T.rL ?_)
 refine aw rfl ?_
 refine TL'.nil (tN ?_)
 refine T.ret (inBlock_ret (thenS_ret ?_))
 exact Fin.doneK (.cons _ _ _ _ (.tmp 2 _ rfl) .nil) (.cons 0 rfl (.cons 0 rfl (.nil _))) (by cases h; exact ⟨rfl, rfl⟩)
 refine T.condF rfl f ?_
 refine T.seq (T.rL ?_)
 refine mw rfl ?_
 refine sp rfl (OpT.int2 rfl rfl (dk rfl) rfl rfl ?_)
 refine aw rfl ?_
 refine TL'.nil (tN ?_)
 rcases bif_some h with ⟨g, h⟩ | ⟨g, h⟩
 refine T.condT rfl g ?_
 refine T.seq (T.rL ?_)
 refine aw rfl ?_
 refine TL'.nil (tN ?_)
 refine T.ret (inBlock_ret (thenS_ret ?_))
 exact Fin.doneK (.cons _ _ _ _ (.tmp 2 _ rfl) .nil) (.cons 0 rfl (.cons 0 rfl (.nil _))) (by cases h; exact ⟨rfl, rfl⟩)
 refine T.condF rfl g ?_
 refine T.seq (T.rL ?_)
 refine mw rfl ?_
 refine sp rfl (OpT.int2 rfl rfl (dk rfl) rfl rfl ?_)
 refine mw rfl ?_
 rcases bif_some h with ⟨a, h⟩ | ⟨a, h⟩
 refine TL'.pU (.off _ _ _ _ rfl rfl rfl a) (dk rfl) ?_
 refine TL'.pU (.off _ _ _ _ rfl rfl rfl a) (dk rfl) ?_
 refine sp rfl (OpT.pickT rfl (dk rfl) rfl a rfl ?_)
 refine aw rfl ?_
 refine TL'.nil (tN ?_)
 refine T.condT rfl rfl ?_
 refine T.by_turn ?_ (print_Byte_j0_T K x0 h)
 exact Turn.rp (.cons rfl (.nil _)) (.c .z (.c .z (.n _)))
 refine TL'.step (.on rfl rfl rfl a) (OpT.move rfl (dk rfl) rfl ?_)
 refine TL'.step (.on rfl rfl rfl a) (OpT.int2 rfl rfl (dk rfl) rfl rfl ?_)
 refine sp rfl (OpT.pickF rfl (dk rfl) rfl a rfl ?_)
 refine aw rfl ?_
 refine TL'.nil (tN ?_)
 rcases bif_some h with ⟨i, h⟩ | ⟨i, h⟩
 refine T.condT rfl i ?_
 refine T.by_turn ?_ (print_Byte_j0_T K x0 h)
 exact Turn.rp (.cons rfl (.nil _)) (.c .z (.c .z (.n _)))
 refine T.condF rfl i ?_
 refine T.skip (inBlock_normal (tN ?_))
 refine T.seq (T.rL ?_)
 refine mw rfl ?_
 refine sp rfl (OpT.convInt rfl (dk rfl) ul5 ul21 rfl ?_)
 refine sp rfl (OpT.convRune rfl (dk rfl) ul21 ul9 rfl ?_)
 refine aw rfl ?_
 refine TL'.nil (tN ?_)
 refine T.ret ?_
 exact Fin.doneK (.cons _ _ _ _ (.tmp 2 _ rfl) .nil) (.cons 0 rfl (.cons 0 rfl (.nil _))) (by cases h; exact ⟨rfl, rfl⟩)
abbrev print_Set_q (r : ByteArray) : Exit → St → Prop := retS Tryd.prog Tryd.f14 (fun y t => y = (.str r) ∧ t = [.ro 2 deBruijnD, .ro 3 deBruijn32D])
abbrev print_Set_qs111111 (r : ByteArray) : Exit → St → Prop := thenS (fun s' => T Tryd.prog 59 (Code.at [1, 1, 1, 1, 1, 1] (codeOf Tryd.f14)) s' ((print_Set_q r))) ((print_Set_q r))
abbrev print_Set_qb1x111111 (r : ByteArray) : Exit → St → Prop := inBlockS 1 ((print_Set_qs111111 r))
abbrev print_Set_qs111 (r : ByteArray) : Exit → St → Prop := thenS (fun s' => T Tryd.prog 59 (Code.at [1, 1, 1] (codeOf Tryd.f14)) s' ((print_Set_q r))) ((print_Set_q r))
abbrev print_Set_qb0x111 (r : ByteArray) : Exit → St → Prop := inBlockS 0 ((print_Set_qs111 r))
theorem print_Set_l1_T {r : ByteArray} (K : Nat) : ∀ (k : Nat), ∀ (j : List Arr2) (l : Int) (m : Int) (u : List Int) (g : Nat) (p : Value), print_Set_l1 K k j l m u = some r → TL Tryd.prog 59 (Code.at [1, 1, 1, 1, 1, 0, 1, 0, 0] (codeOf Tryd.f14)) ⟨[(4, .ptr g 0), (36, .sl false 2 (j.map (Arr2.dc .u8))), (37, .int .i64 l), (38, .int .i64 m)], [.box g 61 [.d (.ptr g 0), .d (.ex p)], .arrX p 5 1 0 (u.map (cI .u8)), .ro 2 deBruijnD, .ro 3 deBruijn32D]⟩ (print_Set_qb1x111111 r) := by
  intro k
  induction k with
  | zero =>
    intro j l m u g p h
    cases (show (none : Option ByteArray) = some r from h)
  | succ k ih =>
    intro j l m u g p h
    rw [print_Set_l1] at h
    refine TL.round ?_
    refine T.seq ?_
    refine T.rL ?_
    refine sp rfl (OpT.int2 rfl rfl (dl rfl rfl) rfl rfl ?_)
    refine TL'.nil (tN ?_)
    refine T.seq ?_
    rcases bif_some h with ⟨w, h⟩ | ⟨w, h⟩
    · refine T.condT rfl w ?_
      refine T.skip (tN ?_)
      refine T.seq ?_
      refine T.block ?_
      refine T.seq ?_
      refine T.rL ?_
      obtain ⟨q, ab, h⟩ := bind_some h
      refine sp rfl (OpT.indexSlM (xs := j) (f := (Arr2.dc .u8)) (v := q) rfl (dl rfl rfl) Tryd.underlying54 i56 rfl rfl ab ?_)
      refine sp rfl (OpT.loadRefAgg rfl (dl rfl rfl) Tryd.underlying56 rfl i56 rfl (Nat.le_of_ble_eq_true rfl) ?_)
      refine sp rfl (OpT.alloc' rfl (dl rfl rfl) i56 rfl (fun av => ?_))
      refine sp rfl (OpT.storeAggTo (i := 0) (cells' := (Arr2.oc .u8 q)) rfl rfl i56 rfl rfl rfl rfl (Nat.le_of_ble_eq_true rfl) rfl ?_)
      refine TL'.nil (tN ?_)
      refine T.seq ?_
      refine T.rL ?_
      refine sp rfl (OpT.indexPtr rfl (dl rfl rfl) Tryd.underlying56 i5 rfl rfl (by decide) (by decide) ?_)
      refine sp rfl (OpT.lB (i := 0) rfl (dl rfl rfl) Tryd.underlying5 rfl rfl rfl (Arr2.oc_get (k := .u8) (a := q) (pre := []) (post := []) (by decide) (by decide)) ?_)
      obtain ⟨aw, ac, h⟩ := bind_some h
      refine sp rfl (OpT.callRoA rfl (dl rfl rfl) Tryd.func12 rfl rfl (Args.cons rfl Args.nil) (.cons 3 rfl (.cons 4 rfl (.nil))) (print_Byte_T K ac) ?_)
      obtain ⟨ad, af, h⟩ := bind_some h
      refine sp rfl (OpT.callG (is := [1, 2]) (ph := []) rfl (dl rfl rfl) Tryd.func31 rfl rfl (Args.cons rfl (Args.cons rfl Args.nil)) (sB_WriteString_i1_T K (bx0 := g) (wx0c1 := p) af) (.cons rfl rfl (.cons rfl rfl (.nil))) (fun _ => rfl) (fun aa => ?_))
      refine nm (.c (.c (.c (.c (.c (.n)))))) ?_
      refine TL'.nil (tN ?_)
      refine T.seq ?_
      refine T.rL ?_
      refine sp rfl (OpT.indexPtr rfl (dl rfl rfl) Tryd.underlying56 i5 rfl rfl (by decide) (by decide) ?_)
      refine sp rfl (OpT.lB (i := 0) rfl (dl rfl rfl) Tryd.underlying5 rfl rfl rfl (Arr2.oc_get (k := .u8) (a := q) (pre := []) (post := []) (by decide) (by decide)) ?_)
      refine sp rfl (OpT.indexPtr rfl (dl rfl rfl) Tryd.underlying56 i5 rfl rfl (by decide) (by decide) ?_)
      refine sp rfl (OpT.lB (i := 0) rfl (dl rfl rfl) Tryd.underlying5 rfl rfl rfl (Arr2.oc_get (k := .u8) (a := q) (pre := []) (post := []) (by decide) (by decide)) ?_)
      refine sp rfl (OpT.int2 rfl rfl (dl rfl rfl) rfl rfl ?_)
      refine TL'.nil (tN ?_)
      rcases bif_some h with ⟨y, h⟩ | ⟨y, h⟩
      · refine T.condT rfl y ?_
        refine T.rL ?_
        refine sp rfl (OpT.indexPtr rfl (dl rfl rfl) Tryd.underlying56 i5 rfl rfl (by decide) (by decide) ?_)
        refine sp rfl (OpT.lB (i := 0) rfl (dl rfl rfl) Tryd.underlying5 rfl rfl rfl (Arr2.oc_get (k := .u8) (a := q) (pre := []) (post := []) (by decide) (by decide)) ?_)
        obtain ⟨ay, ag, h⟩ := bind_some h
        refine sp rfl (OpT.callRoA rfl (dl rfl rfl) Tryd.func12 rfl rfl (Args.cons rfl Args.nil) (.cons 3 rfl (.cons 4 rfl (.nil))) (print_Byte_T K ag) ?_)
        obtain ⟨ai, h⟩ := ck_some h
        refine sp rfl (OpT.str_add rfl (dl rfl rfl) rfl rfl ai ?_)
        obtain ⟨aj, al, h⟩ := bind_some h
        refine sp rfl (OpT.callG (is := [1, 2]) (ph := []) rfl (dl rfl rfl) Tryd.func31 rfl rfl (Args.cons rfl (Args.cons rfl Args.nil)) (sB_WriteString_i1_T K (bx0 := g) (wx0c1 := (aa 0)) al) (.cons rfl rfl (.cons rfl rfl (.nil))) (fun _ => rfl) (fun am => ?_))
        refine nm (.c (.c (.c (.c (.c (.n)))))) ?_
        refine TL'.nil (inBlock_normal (tN ?_))
        refine T.rL ?_
        refine sp rfl (OpT.int2 rfl rfl (dl rfl rfl) rfl rfl ?_)
        refine mv rfl rfl rfl rfl rfl ?_
        refine TL'.nil (tN ?_)
        refine TL.by_turn ?_ (ih j l (wI (m + (1 : Int))) aj.2.2 g (am 0) h)
        exact Turn.rp (.cons rfl (.cons rfl (.cons rfl (.cons rfl (.nil _))))) (.c (.s .z) (.c (.s .z) (.c (.s .z) (.c (.s .z) (.n _)))))
      · refine T.condF rfl y ?_
        refine T.skip (inBlock_normal (tN ?_))
        refine T.rL ?_
        refine sp rfl (OpT.int2 rfl rfl (dl rfl rfl) rfl rfl ?_)
        refine mv rfl rfl rfl rfl rfl ?_
        refine TL'.nil (tN ?_)
        refine TL.by_turn ?_ (ih j l (wI (m + (1 : Int))) ad.2.2 g (aa 0) h)
        exact Turn.rp (.cons rfl (.cons rfl (.cons rfl (.cons rfl (.nil _))))) (.c (.s .z) (.c (.s .z) (.c (.s .z) (.c (.s .z) (.n _)))))
    · refine T.condF rfl w ?_
      refine T.exit (thenS_exit (thenS_exit (inBlock_exit (tN ?_))))
      refine T.seq ?_
      refine T.rL ?_
      obtain ⟨an, ap, h⟩ := bind_some h
      refine sp rfl (OpT.callG (is := [0, 1]) (ph := []) rfl (dl rfl rfl) Tryd.func31 rfl rfl (Args.cons rfl (Args.cons rfl Args.nil)) (sB_WriteString_i1_T K (bx0 := g) (wx0c1 := p) ap) (.cons rfl rfl (.cons rfl rfl (.nil))) (fun _ => rfl) (fun az => ?_))
      refine nm (.c (.c (.c (.c (.n))))) ?_
      refine TL'.nil (tN ?_)
      refine T.seq ?_
      refine T.rL ?_
      obtain ⟨aq, h⟩ := ck_some h
      obtain ⟨au, h⟩ := ck_some h
      refine sp rfl (OpT.callG (is := [0, 1]) (ph := []) rfl (dl rfl rfl) Tryd.func32 rfl rfl (Args.cons rfl Args.nil) (builder_String (b := g) (xs := an.2.2) aq au) (.cons rfl rfl (.cons rfl rfl (.nil))) (fun _ => rfl) (fun a0 => ?_))
      refine nm (.c (.c (.c (.c (.n))))) ?_
      refine asg rfl rfl rfl rfl rfl ?_
      refine TL'.nil (tN ?_)
      refine T.ret ?_
      exact Fin.doneK (.cons _ _ _ _ (.tmp 2 _ rfl) .nil) (.cons 2 rfl (.cons 2 rfl (.nil _))) (by cases h; exact ⟨rfl, rfl⟩)
theorem print_Set_j0_T {r : ByteArray} (K : Nat) (b : List Arr2) (x0 : Arr4) (d : Nat) (h : print_Set_j0 K b x0 = some r) : T Tryd.prog 59 (Code.at [1, 1, 0, 0, 1, 1] (codeOf Tryd.f14)) ⟨[(1, .ptr d 0), (3, .sl false 2 (b.map (Arr2.dc .u8)))], [.box d 25 (Arr4.oc .u64 x0), .ro 2 deBruijnD, .ro 3 deBruijn32D]⟩ (print_Set_qb0x111 r) := by
 unfold print_Set_j0 at h
 refine T.seq ?_
 refine DG.start ?_
 refine DG.step (c := ⟨some 30, .agg (Arr4.dc .u64 x0), [(1, .ptr d 0)], [(0, .box d 25 (Arr4.oc .u64 x0))], []⟩) (fun t hm => One.step rfl (.free rfl) (OpT.lBAgg (i := 0) (l := (Arr4.dc .u64 x0)) rfl (dk rfl) ul25 rfl i25 hm.s0 hm.o0 rfl rfl rfl)) (Ct.mo rfl rfl) ?_
 refine DG.step (c := ⟨some 31, .sl true 1 ([(10 : Int)].map (cI .u8)), [], [], []⟩) (fun t hm => One.step rfl (.free rfl) (OpT.buildSlice (elems := ([(10 : Int)] : List Int).map (cI .u8)) rfl (dk rfl) ul32 i5 (by decide) rfl (all1 rfl) (parts_cons rfl rfl parts_nil) rfl rfl (lenAll rfl) (by decide) rfl)) (Ct.mo rfl rfl) ?_
 obtain ⟨j, p, h⟩ := bind_some h
 refine DG.step (c := ⟨some 32, .agg (Arr4.dc .u64 j), [(31, .sl true 1 ([(10 : Int)].map (cI .u8)))], [], []⟩) (fun t hm => One.step rfl (.free rfl) (OpT.callPA rfl (dk rfl) Tryd.func30 rfl rfl (Args.cons hm.s0 Args.nil) (CallR.nil (bset_Of_T K (flx0 := true) p)) rfl)) (Ct.mo rfl rfl) ?_
 obtain ⟨a, q, h⟩ := bind_some h
 refine DG.step (c := ⟨some 33, .agg (Arr4.dc .u64 a), [(32, .agg (Arr4.dc .u64 j))], [], []⟩) (fun t hm => One.step rfl (.free rfl) (OpT.callPA rfl (dk rfl) Tryd.func29 rfl rfl (Args.cons hm.s0 Args.nil) (CallR.nil (bset_Not_T K q)) rfl)) (Ct.mo rfl rfl) ?_
 refine DG.step (c := ⟨some 34, .bool (Arr4.same x0 a), [(30, .agg (Arr4.dc .u64 x0)), (33, .agg (Arr4.dc .u64 a))], [], []⟩) (fun t hm => One.step rfl (.free rfl) (OpT.intsEql (k := .u64) (xs := [x0.a0, x0.a1, x0.a2, x0.a3]) (ys := [a.a0, a.a1, a.a2, a.a3]) rfl (dk rfl) ul25 ul23 i23 Tryd.eqGuardType25 hm.s0 hm.s1 rfl rfl rfl rfl (Arr4.same_eq x0 a) rfl)) (Ct.mo rfl rfl) ?_
 refine DG.step (c := ⟨some 29, .bool (Arr4.same x0 a), [(34, .bool (Arr4.same x0 a))], [], []⟩) (fun t hm => One.step rfl (.free rfl) (OpT.assign rfl (dk rfl) hm.s0 rfl)) (Ct.mo rfl rfl) ?_
 refine DG.fin (s1 := ⟨[(3, .sl false 2 (b.map (Arr2.dc .u8))), (29, .bool (Arr4.same x0 a))], [.box d 25 (Arr4.oc .u64 x0), .ro 2 deBruijnD, .ro 3 deBruijn32D]⟩) (ms := [0, 0, 2, 6, 15, 31]) TrydMixed rfl (by kernel_rfl) (by kernel_rfl) (by kernel_rfl) (.cons rfl (.cons rfl (.nil _))) rfl (fun u hu => (tN (T.by_turn hu ?_)))
 rcases bif_some h with ⟨g, h⟩ | ⟨g, h⟩
 refine T.condT rfl g ?_
 refine T.seq (T.rL ?_)
 refine aw rfl ?_
 refine TL'.nil (tN ?_)
 refine T.ret (inBlock_ret (thenS_ret ?_))
 exact Fin.doneK (.cons _ _ _ _ (.tmp 2 _ rfl) .nil) (.cons 1 rfl (.cons 1 rfl (.nil _))) (by cases h; exact ⟨rfl, rfl⟩)
 refine T.condF rfl g ?_
 refine T.skip (inBlock_normal (tN ?_))
 refine T.seq (T.rL ?_)
 refine sp rfl (OpT.alloc' rfl (dk rfl) i61 rfl (fun m => ?_))
 refine TL'.nil (tN (T.seq (T.rL ?_)))
 refine TL'.turn (Turn.nilX 5 1) ?_
 obtain ⟨v, w, h⟩ := bind_some h
 refine sp rfl (OpT.callG (is := [1, 0]) (ph := []) rfl (dk rfl) Tryd.func31 rfl rfl (Args.cons rfl (Args.cons rfl Args.nil)) (sB_WriteString_T K (bx0 := m) (wx0c1 := (nilv 10)) w) (.cons rfl rfl (.cons rfl rfl (.nil))) (fun _ => rfl) (fun y => ?_))
 refine nm (.c (.c (.c (.c (.c (.n)))))) ?_
 refine TL'.nil (tN ?_)
 refine T.seq ?_
 refine T.seq (T.rL ?_)
 refine mw rfl ?_
 refine sp rfl (OpT.lenSlM (xs := b) (f := (Arr2.dc .u8)) rfl (dk rfl) ul54 rfl ?_)
 refine mw rfl ?_
 refine TL'.nil (tN ?_)
 refine T.block ?_
 refine T.loop ?_
 refine TL.by_turn ?_ (print_Set_l1_T K K b (b.length : Int) (0 : Int) v.2.2 m (y 0) h)
 exact Turn.rp (.cons rfl (.cons rfl (.cons rfl (.cons rfl (.nil _))))) (.c (.s .z) (.c .z (.c (.s .z) (.c (.s .z) (.n _)))))
theorem print_Set_T (K : Nat) {x0 : Arr4} {r : ByteArray} (h : print_Set K x0 = some r) : CallR Tryd.prog 14 [.agg (Arr4.dc .u64 x0)] [.ro 2 deBruijnD, .ro 3 deBruijn32D] (.str r) := by
 refine CallT.intro Tryd.func14 rfl (nb rfl) ?_
 show T Tryd.prog 59 (Code.at [] (codeOf Tryd.f14)) ⟨paramSlots 0 [.agg (Arr4.dc .u64 x0)], [.ro 2 deBruijnD, .ro 3 deBruijn32D]⟩ (print_Set_q r)
 unfold print_Set at h
 refine T.seq (T.rL ?_)
 refine sp rfl (OpT.boxAgg rfl (dk rfl) rfl (fun g => ?_))
 refine aw rfl ?_
 refine TL'.nil (tN (T.seq (T.rL ?_)))
 refine sp rfl (OpT.lBAgg (i := 0) (l := (Arr4.dc .u64 x0)) rfl (dk rfl) ul25 rfl i25 rfl rfl rfl rfl ?_)
 obtain ⟨b, p, h⟩ := bind_some h
 refine sp rfl (OpT.callRoA rfl (dk rfl) Tryd.func28 rfl rfl (Args.cons rfl Args.nil) (.cons 1 rfl (.nil)) (bset_Spans_T K p) ?_)
 refine aw rfl ?_
 refine TL'.nil (tN ?_)
 refine T.seq ?_
 refine T.block ?_
 refine T.seq ?_
 refine DG.start ?_
 refine DG.mv rfl rfl rfl rfl rfl rfl ?_
 refine DG.step (c := ⟨some 11, .int .i64 (b.length : Int), [(10, .sl false 2 (b.map (Arr2.dc .u8)))], [], []⟩) (fun t hm => One.step rfl (.free rfl) (OpT.lenSlM (xs := b) (f := (Arr2.dc .u8)) rfl (dk rfl) ul54 hm.s0 rfl)) (Ct.mo rfl rfl) ?_
 refine DG.step (c := ⟨some 12, .bool ((b.length : Int) == (1 : Int)), [(11, .int .i64 (b.length : Int))], [], []⟩) (fun t hm => One.step rfl (.free rfl) (OpT.int2 rfl rfl (dk rfl) hm.s0 rfl rfl)) (Ct.mo rfl rfl) ?_
 refine DG.mv rfl rfl rfl rfl rfl rfl ?_
 rcases bif_some h with ⟨d, h⟩ | ⟨d, h⟩
 refine DG.step (c := ⟨some 14, .sl false 2 (b.map (Arr2.dc .u8)), [(3, .sl false 2 (b.map (Arr2.dc .u8))), (13, .bool ((b.length : Int) == (1 : Int)))], [], []⟩) (fun t hm => One.step rfl (.on rfl rfl hm.s1 d) (OpT.move rfl (dk rfl) hm.s0 rfl)) (Ct.mo rfl rfl) ?_
 obtain ⟨a, j, h⟩ := bind_some h
 refine DG.step (c := ⟨some 15, .ref [.int .u8 a.a0, .int .u8 a.a1], [(14, .sl false 2 (b.map (Arr2.dc .u8))), (13, .bool ((b.length : Int) == (1 : Int)))], [], []⟩) (fun t hm => One.step rfl (.on rfl rfl hm.s1 d) (OpT.indexSlM (xs := b) (f := (Arr2.dc .u8)) (v := a) rfl (dk rfl) ul54 i56 hm.s0 rfl j rfl)) (Ct.mo rfl rfl) ?_
 refine DG.step (c := ⟨some 16, .ref [.int .u8 a.a0, .int .u8 a.a1], [(15, .ref [.int .u8 a.a0, .int .u8 a.a1]), (13, .bool ((b.length : Int) == (1 : Int)))], [], []⟩) (fun t hm => One.step rfl (.on rfl rfl hm.s1 d) (OpT.indexRef rfl (dk rfl) ul56 i5 hm.s0 rfl (by decide) (by decide) rfl)) (Ct.mo rfl rfl) ?_
 refine DG.step (c := ⟨some 17, .int .u8 a.a0, [(16, .ref [.int .u8 a.a0, .int .u8 a.a1]), (13, .bool ((b.length : Int) == (1 : Int)))], [], []⟩) (fun t hm => One.step rfl (.on rfl rfl hm.s1 d) (OpT.loadRef rfl (dk rfl) ul5 rfl hm.s0 rfl rfl)) (Ct.mo rfl rfl) ?_
 refine DG.step (c := ⟨some 18, .sl false 2 (b.map (Arr2.dc .u8)), [(3, .sl false 2 (b.map (Arr2.dc .u8))), (13, .bool ((b.length : Int) == (1 : Int)))], [], []⟩) (fun t hm => One.step rfl (.on rfl rfl hm.s1 d) (OpT.move rfl (dk rfl) hm.s0 rfl)) (Ct.mo rfl rfl) ?_
 refine DG.step (c := ⟨some 19, .ref [.int .u8 a.a0, .int .u8 a.a1], [(18, .sl false 2 (b.map (Arr2.dc .u8))), (13, .bool ((b.length : Int) == (1 : Int)))], [], []⟩) (fun t hm => One.step rfl (.on rfl rfl hm.s1 d) (OpT.indexSlM (xs := b) (f := (Arr2.dc .u8)) (v := a) rfl (dk rfl) ul54 i56 hm.s0 rfl j rfl)) (Ct.mo rfl rfl) ?_
 refine DG.step (c := ⟨some 20, .ref [.int .u8 a.a1], [(19, .ref [.int .u8 a.a0, .int .u8 a.a1]), (13, .bool ((b.length : Int) == (1 : Int)))], [], []⟩) (fun t hm => One.step rfl (.on rfl rfl hm.s1 d) (OpT.indexRef rfl (dk rfl) ul56 i5 hm.s0 rfl (by decide) (by decide) rfl)) (Ct.mo rfl rfl) ?_
 refine DG.step (c := ⟨some 21, .int .u8 a.a1, [(20, .ref [.int .u8 a.a1]), (13, .bool ((b.length : Int) == (1 : Int)))], [], []⟩) (fun t hm => One.step rfl (.on rfl rfl hm.s1 d) (OpT.loadRef rfl (dk rfl) ul5 rfl hm.s0 rfl rfl)) (Ct.mo rfl rfl) ?_
 refine DG.step (c := ⟨some 22, .bool (a.a0 == a.a1), [(17, .int .u8 a.a0), (21, .int .u8 a.a1), (13, .bool ((b.length : Int) == (1 : Int)))], [], []⟩) (fun t hm => One.step rfl (.on rfl rfl hm.s2 d) (OpT.int2 rfl rfl (dk rfl) hm.s0 hm.s1 rfl)) (Ct.mo rfl rfl) ?_
 refine DG.step (c := ⟨some 23, .bool (a.a0 == a.a1), [(13, .bool ((b.length : Int) == (1 : Int))), (22, .bool (a.a0 == a.a1))], [], []⟩) (fun t hm => One.step rfl (.free rfl) (OpT.pickT rfl (dk rfl) hm.s0 d hm.s1 rfl)) (Ct.mo rfl rfl) ?_
 refine DG.step (c := ⟨some 9, .bool (a.a0 == a.a1), [(23, .bool (a.a0 == a.a1))], [], []⟩) (fun t hm => One.step rfl (.free rfl) (OpT.assign rfl (dk rfl) hm.s0 rfl)) (Ct.mo rfl rfl) ?_
 refine DG.fin (s1 := ⟨[(1, .ptr g 0), (3, .sl false 2 (b.map (Arr2.dc .u8))), (9, .bool (a.a0 == a.a1))], [.box g 25 (Arr4.oc .u64 x0), .ro 2 deBruijnD, .ro 3 deBruijn32D]⟩) (ms := [0, 1, 3, 7, 15, 31, 63, 127, 15, 271, 783, 1807, 4095, 8191, 16383]) TrydMixed rfl (by kernel_rfl) (by kernel_rfl) (by kernel_rfl) (.cons rfl (.cons rfl (.cons rfl (.nil _)))) rfl (fun u hu => (tN (T.by_turn hu ?_)))
 rcases bif_some h with ⟨m, h⟩ | ⟨m, h⟩
 refine T.condT rfl m ?_
 refine T.seq (T.rL ?_)
 refine mw rfl ?_
 refine sp rfl (OpT.indexSlM (xs := b) (f := (Arr2.dc .u8)) (v := a) rfl (dk rfl) ul54 i56 rfl rfl j ?_)
 refine sp rfl (OpT.indexRef rfl (dk rfl) ul56 i5 rfl rfl (by decide) (by decide) ?_)
 refine sp rfl (OpT.loadRef rfl (dk rfl) ul5 rfl rfl rfl ?_)
 obtain ⟨s, q, h⟩ := bind_some h
 refine sp rfl (OpT.callRoA rfl (dk rfl) Tryd.func12 rfl rfl (Args.cons rfl Args.nil) (.cons 1 rfl (.cons 2 rfl (.nil))) (print_Byte_T K q) ?_)
 refine aw rfl ?_
 refine TL'.nil (tN ?_)
 refine T.ret (inBlock_ret (thenS_ret ?_))
 exact Fin.doneK (.cons _ _ _ _ (.tmp 2 _ rfl) .nil) (.cons 1 rfl (.cons 1 rfl (.nil _))) (by cases h; exact ⟨rfl, rfl⟩)
 refine T.condF rfl m ?_
 refine T.by_turn ?_ (print_Set_j0_T K b x0 g h)
 exact Turn.rp (.cons rfl (.cons rfl (.nil _))) (.c .z (.c .z (.c .z (.n _))))
 refine DG.off d rfl rfl rfl rfl rfl rfl ?_
 refine DG.off d rfl rfl rfl rfl rfl rfl ?_
 refine DG.off d rfl rfl rfl rfl rfl rfl ?_
 refine DG.off d rfl rfl rfl rfl rfl rfl ?_
 refine DG.off d rfl rfl rfl rfl rfl rfl ?_
 refine DG.off d rfl rfl rfl rfl rfl rfl ?_
 refine DG.off d rfl rfl rfl rfl rfl rfl ?_
 refine DG.off d rfl rfl rfl rfl rfl rfl ?_
 refine DG.off d rfl rfl rfl rfl rfl rfl ?_
 refine DG.step (c := ⟨some 23, .bool false, [(13, .bool ((b.length : Int) == (1 : Int)))], [], []⟩) (fun t hm => One.step rfl (.free rfl) (OpT.pickF rfl (dk rfl) hm.s0 d rfl rfl)) (Ct.mo rfl rfl) ?_
 refine DG.step (c := ⟨some 9, .bool false, [(23, .bool false)], [], []⟩) (fun t hm => One.step rfl (.free rfl) (OpT.assign rfl (dk rfl) hm.s0 rfl)) (Ct.mo rfl rfl) ?_
 refine DG.fin (s1 := ⟨[(1, .ptr g 0), (3, .sl false 2 (b.map (Arr2.dc .u8))), (9, .bool false)], [.box g 25 (Arr4.oc .u64 x0), .ro 2 deBruijnD, .ro 3 deBruijn32D]⟩) (ms := [0, 1, 3, 7, 15, 31, 63, 127, 15, 271, 783, 1807, 4095, 8191, 16383]) TrydMixed rfl (by kernel_rfl) (by kernel_rfl) (by kernel_rfl) (.cons rfl (.cons rfl (.cons rfl (.nil _)))) rfl (fun u hu => (tN (T.by_turn hu ?_)))
 refine T.condF rfl rfl ?_
 refine T.by_turn ?_ (print_Set_j0_T K b x0 g h)
 exact Turn.rp (.cons rfl (.cons rfl (.nil _))) (.c .z (.c .z (.c .z (.n _))))
abbrev pW_q (r : Bool) : Exit → St → Prop := retS Tryd.prog Tryd.f20 (fun y t => y = (.bool r) ∧ t = [])
abbrev pW_qs11 (r : Bool) : Exit → St → Prop := thenS (fun s' => T Tryd.prog 13 (Code.at [1, 1] (codeOf Tryd.f20)) s' ((pW_q r))) ((pW_q r))
abbrev pW_qb0x11 (r : Bool) : Exit → St → Prop := inBlockS 0 ((pW_qs11 r))
theorem pW_j0_T {r : Bool} (K : Nat) (x0 : Int) (b : Bool) (h : pW_j0 K x0 b = some r) : T Tryd.prog 13 (Code.at [1, 0, 1, 0, 1, 1, 1] (codeOf Tryd.f20)) ⟨[(0, .int .u8 x0), (8, .bool b)], []⟩ (pW_qb0x11 r) := by
 unfold pW_j0 at h
 rcases bif_some h with ⟨a, h⟩ | ⟨a, h⟩
 refine T.condT rfl a ?_
 refine T.seq (T.rL ?_)
 refine mw rfl ?_
 refine sp rfl (OpT.int2 rfl rfl (dk rfl) rfl rfl ?_)
 refine aw rfl ?_
 refine TL'.nil (tN ?_)
 refine T.ret (inBlock_ret (thenS_ret ?_))
 exact Fin.done (.cons _ _ _ _ (.tmp 4 _ rfl) .nil) (by cases h; exact ⟨rfl, rfl⟩)
 refine T.condF rfl a ?_
 refine T.skip (inBlock_normal (tN ?_))
 refine T.seq (T.rL ?_)
 refine aw rfl ?_
 refine TL'.nil (tN ?_)
 refine T.ret ?_
 exact Fin.done (.cons _ _ _ _ (.tmp 4 _ rfl) .nil) (by cases h; exact ⟨rfl, rfl⟩)
theorem pW_T (K : Nat) {x0 : Int} {x1 : Int} {r : Bool} (h : pW K x0 x1 = some r) : CallR Tryd.prog 20 [.int .u8 x0, .int .u8 x1] [] (.bool r) := by
 refine CallT.intro Tryd.func20 rfl (nb rfl) ?_
 show T Tryd.prog 13 (Code.at [] (codeOf Tryd.f20)) ⟨paramSlots 0 [.int .u8 x0, .int .u8 x1], []⟩ (pW_q r)
 unfold pW at h
 refine T.seq (T.rL ?_)
 refine aw rfl ?_
 refine TL'.nil (tN ?_)
 refine T.seq ?_
 refine T.seq (T.rL ?_)
 refine mw rfl ?_
 refine TL'.nil (tN ?_)
 refine T.block ?_
 refine T.seq (T.rL ?_)
 refine sp rfl (OpT.int2 rfl rfl (dk rfl) rfl rfl ?_)
 refine aw rfl ?_
 refine TL'.nil (tN ?_)
 rcases bif_some h with ⟨a, h⟩ | ⟨a, h⟩
 refine T.condT rfl a ?_
 refine T.seq (T.rL ?_)
 refine aw rfl ?_
 refine TL'.nil (tN ?_)
 refine T.ret (inBlock_ret (thenS_ret ?_))
 exact Fin.done (.cons _ _ _ _ (.tmp 4 _ rfl) .nil) (by cases h; exact ⟨rfl, rfl⟩)
 refine T.condF rfl a ?_
 refine T.seq ?_
 refine T.seq (T.rL ?_)
 refine sp rfl (OpT.int2 rfl rfl (dk rfl) rfl rfl ?_)
 refine aw rfl ?_
 refine TL'.nil (tN ?_)
 rcases bif_some h with ⟨b, h⟩ | ⟨b, h⟩
 refine T.condT rfl b ?_
 refine T.skip (tN ?_)
 refine T.by_turn ?_ (pW_j0_T K x0 (x1 == (1 : Int)) h)
 exact Turn.rp (.cons rfl (.cons rfl (.nil _))) (.n _)
 refine T.condF rfl b ?_
 refine T.rL ?_
 refine sp rfl (OpT.int2 rfl rfl (dk rfl) rfl rfl ?_)
 refine aw rfl ?_
 refine TL'.nil (tN ?_)
 refine T.by_turn ?_ (pW_j0_T K x0 (x1 == (3 : Int)) h)
 exact Turn.rp (.cons rfl (.cons rfl (.nil _))) (.n _)
theorem strconv_Itoa_T (K : Nat) {x0 : Int} {r : ByteArray} (h : strconv_Itoa K x0 = some r) : CallR Tryd.prog 42 [.int .i64 x0] [.tab 1 pow10V] (.str r) := by
 unfold strconv_Itoa at h
 split at h
 next hc => cases h; exact itoa_call Tryd.laysM171 (by kernel_rfl) hc.1 hc.2
 cases h
abbrev print_times_q (r : ByteArray) : Exit → St → Prop := retS Tryd.prog Tryd.f21 (fun y t => y = (.str r) ∧ t = [.tab 1 pow10V])
theorem print_times_T (K : Nat) {x0 : Int} {x1 : Int} {r : ByteArray} (h : print_times K x0 x1 = some r) : CallR Tryd.prog 21 [.int .i64 x0, .int .i64 x1] [.tab 1 pow10V] (.str r) := by
 refine CallT.intro Tryd.func21 rfl (nb rfl) ?_
 show T Tryd.prog 42 (Code.at [] (codeOf Tryd.f21)) ⟨paramSlots 0 [.int .i64 x0, .int .i64 x1], [.tab 1 pow10V]⟩ (print_times_q r)
 unfold print_times at h
 refine T.seq (T.rL ?_)
 refine aw rfl ?_
 refine TL'.nil (tN ?_)
 refine T.seq ?_
 refine T.seq (T.rL ?_)
 refine mw rfl ?_
 refine mw rfl ?_
 refine sp rfl (OpT.build (l := (Arr2.dc .i64 (Arr2.mk x0 x1))) rfl (dk rfl) (built_arr ul80 i80 i3) (all1 rfl) rfl rfl ?_)
 refine TL'.nil (tN ?_)
 refine T.block ?_
 refine T.seq (T.rL ?_)
 refine sp rfl (OpT.build (l := (Arr2.dc .i64 (Arr2.mk (0 : Int) (-1 : Int)))) rfl (dk rfl) (built_arr ul80 i80 i3) (all1 rfl) rfl rfl ?_)
 refine sp rfl (OpT.intsEql (k := .i64) (xs := [(Arr2.mk x0 x1).a0, (Arr2.mk x0 x1).a1]) (ys := [(Arr2.mk (0 : Int) (-1 : Int)).a0, (Arr2.mk (0 : Int) (-1 : Int)).a1]) rfl (dk rfl) ul80 ul3 i3 Tryd.eqGuardType80 rfl rfl rfl rfl rfl rfl (Arr2.same_eq (Arr2.mk x0 x1) (Arr2.mk (0 : Int) (-1 : Int))) ?_)
 refine aw rfl ?_
 refine TL'.nil (tN ?_)
 rcases bif_some h with ⟨a, h⟩ | ⟨a, h⟩
 refine T.condT rfl a ?_
 refine T.seq (T.rL ?_)
 refine aw rfl ?_
 refine TL'.nil (tN ?_)
 refine T.ret (inBlock_ret (thenS_ret ?_))
 exact Fin.doneK (.cons _ _ _ _ (.tmp 4 _ rfl) .nil) (.cons 0 rfl (.nil _)) (by cases h; exact ⟨rfl, rfl⟩)
 refine T.condF rfl a ?_
 refine T.seq (T.rL ?_)
 refine sp rfl (OpT.build (l := (Arr2.dc .i64 (Arr2.mk (1 : Int) (-1 : Int)))) rfl (dk rfl) (built_arr ul80 i80 i3) (all1 rfl) rfl rfl ?_)
 refine sp rfl (OpT.intsEql (k := .i64) (xs := [(Arr2.mk x0 x1).a0, (Arr2.mk x0 x1).a1]) (ys := [(Arr2.mk (1 : Int) (-1 : Int)).a0, (Arr2.mk (1 : Int) (-1 : Int)).a1]) rfl (dk rfl) ul80 ul3 i3 Tryd.eqGuardType80 rfl rfl rfl rfl rfl rfl (Arr2.same_eq (Arr2.mk x0 x1) (Arr2.mk (1 : Int) (-1 : Int))) ?_)
 refine aw rfl ?_
 refine TL'.nil (tN ?_)
 rcases bif_some h with ⟨b, h⟩ | ⟨b, h⟩
 refine T.condT rfl b ?_
 refine T.seq (T.rL ?_)
 refine aw rfl ?_
 refine TL'.nil (tN ?_)
 refine T.ret (inBlock_ret (thenS_ret ?_))
 exact Fin.doneK (.cons _ _ _ _ (.tmp 4 _ rfl) .nil) (.cons 0 rfl (.nil _)) (by cases h; exact ⟨rfl, rfl⟩)
 refine T.condF rfl b ?_
 refine T.seq (T.rL ?_)
 refine sp rfl (OpT.build (l := (Arr2.dc .i64 (Arr2.mk (0 : Int) (1 : Int)))) rfl (dk rfl) (built_arr ul80 i80 i3) (all1 rfl) rfl rfl ?_)
 refine sp rfl (OpT.intsEql (k := .i64) (xs := [(Arr2.mk x0 x1).a0, (Arr2.mk x0 x1).a1]) (ys := [(Arr2.mk (0 : Int) (1 : Int)).a0, (Arr2.mk (0 : Int) (1 : Int)).a1]) rfl (dk rfl) ul80 ul3 i3 Tryd.eqGuardType80 rfl rfl rfl rfl rfl rfl (Arr2.same_eq (Arr2.mk x0 x1) (Arr2.mk (0 : Int) (1 : Int))) ?_)
 refine aw rfl ?_
 refine TL'.nil (tN ?_)
 rcases bif_some h with ⟨c, h⟩ | ⟨c, h⟩
 refine T.condT rfl c ?_
 refine T.seq (T.rL ?_)
 refine aw rfl ?_
 refine TL'.nil (tN ?_)
 refine T.ret (inBlock_ret (thenS_ret ?_))
 exact Fin.doneK (.cons _ _ _ _ (.tmp 4 _ rfl) .nil) (.cons 0 rfl (.nil _)) (by cases h; exact ⟨rfl, rfl⟩)
 refine T.condF rfl c ?_
 refine T.seq (T.rL ?_)
 refine mw rfl ?_
 refine mw rfl ?_
 refine sp rfl (OpT.build (l := (Arr2.dc .i64 (Arr2.mk x0 x0))) rfl (dk rfl) (built_arr ul80 i80 i3) (all1 rfl) rfl rfl ?_)
 refine sp rfl (OpT.intsEql (k := .i64) (xs := [(Arr2.mk x0 x1).a0, (Arr2.mk x0 x1).a1]) (ys := [(Arr2.mk x0 x0).a0, (Arr2.mk x0 x0).a1]) rfl (dk rfl) ul80 ul3 i3 Tryd.eqGuardType80 rfl rfl rfl rfl rfl rfl (Arr2.same_eq (Arr2.mk x0 x1) (Arr2.mk x0 x0)) ?_)
 refine aw rfl ?_
 refine TL'.nil (tN ?_)
 rcases bif_some h with ⟨d, h⟩ | ⟨d, h⟩
 refine T.condT rfl d ?_
 refine T.seq (T.rL ?_)
 refine mw rfl ?_
 obtain ⟨z, g, h⟩ := bind_some h
 refine sp rfl (OpT.callRoA rfl (dk rfl) Tryd.func42 rfl rfl (Args.cons rfl Args.nil) (.tab 0 rfl (.nil)) (strconv_Itoa_T K g) ?_)
 obtain ⟨i, h⟩ := ck_some h
 refine sp rfl (OpT.str_add rfl (dk rfl) rfl rfl i ?_)
 obtain ⟨j, h⟩ := ck_some h
 refine sp rfl (OpT.str_add rfl (dk rfl) rfl rfl j ?_)
 refine aw rfl ?_
 refine TL'.nil (tN ?_)
 refine T.ret (inBlock_ret (thenS_ret ?_))
 exact Fin.doneK (.cons _ _ _ _ (.tmp 4 _ rfl) .nil) (.cons 0 rfl (.nil _)) (by cases h; exact ⟨rfl, rfl⟩)
 refine T.condF rfl d ?_
 refine T.seq (T.rL ?_)
 refine mw rfl ?_
 refine sp rfl (OpT.build (l := (Arr2.dc .i64 (Arr2.mk x0 (-1 : Int)))) rfl (dk rfl) (built_arr ul80 i80 i3) (all1 rfl) rfl rfl ?_)
 refine sp rfl (OpT.intsEql (k := .i64) (xs := [(Arr2.mk x0 x1).a0, (Arr2.mk x0 x1).a1]) (ys := [(Arr2.mk x0 (-1 : Int)).a0, (Arr2.mk x0 (-1 : Int)).a1]) rfl (dk rfl) ul80 ul3 i3 Tryd.eqGuardType80 rfl rfl rfl rfl rfl rfl (Arr2.same_eq (Arr2.mk x0 x1) (Arr2.mk x0 (-1 : Int))) ?_)
 refine aw rfl ?_
 refine TL'.nil (tN ?_)
 rcases bif_some h with ⟨f, h⟩ | ⟨f, h⟩
 refine T.condT rfl f ?_
 refine T.seq (T.rL ?_)
 refine mw rfl ?_
 obtain ⟨aa, m, h⟩ := bind_some h
 refine sp rfl (OpT.callRoA rfl (dk rfl) Tryd.func42 rfl rfl (Args.cons rfl Args.nil) (.tab 0 rfl (.nil)) (strconv_Itoa_T K m) ?_)
 obtain ⟨n, h⟩ := ck_some h
 refine sp rfl (OpT.str_add rfl (dk rfl) rfl rfl n ?_)
 obtain ⟨p, h⟩ := ck_some h
 refine sp rfl (OpT.str_add rfl (dk rfl) rfl rfl p ?_)
 refine aw rfl ?_
 refine TL'.nil (tN ?_)
 refine T.ret (inBlock_ret (thenS_ret ?_))
 exact Fin.doneK (.cons _ _ _ _ (.tmp 4 _ rfl) .nil) (.cons 0 rfl (.nil _)) (by cases h; exact ⟨rfl, rfl⟩)
 refine T.condF rfl f ?_
 refine T.skip (inBlock_normal (tN ?_))
 refine T.seq (T.rL ?_)
 refine mw rfl ?_
 obtain ⟨ab, q, h⟩ := bind_some h
 refine sp rfl (OpT.callRoA rfl (dk rfl) Tryd.func42 rfl rfl (Args.cons rfl Args.nil) (.tab 0 rfl (.nil)) (strconv_Itoa_T K q) ?_)
 obtain ⟨s, h⟩ := ck_some h
 refine sp rfl (OpT.str_add rfl (dk rfl) rfl rfl s ?_)
 obtain ⟨u, h⟩ := ck_some h
 refine sp rfl (OpT.str_add rfl (dk rfl) rfl rfl u ?_)
 refine mw rfl ?_
 obtain ⟨ac, v, h⟩ := bind_some h
 refine sp rfl (OpT.callRoA rfl (dk rfl) Tryd.func42 rfl rfl (Args.cons rfl Args.nil) (.tab 0 rfl (.nil)) (strconv_Itoa_T K v) ?_)
 obtain ⟨w, h⟩ := ck_some h
 refine sp rfl (OpT.str_add rfl (dk rfl) rfl rfl w ?_)
 obtain ⟨y, h⟩ := ck_some h
 refine sp rfl (OpT.str_add rfl (dk rfl) rfl rfl y ?_)
 refine aw rfl ?_
 refine TL'.nil (tN ?_)
 refine T.ret ?_
 exact Fin.doneK (.cons _ _ _ _ (.tmp 4 _ rfl) .nil) (.cons 0 rfl (.nil _)) (by cases h; exact ⟨rfl, rfl⟩)
abbrev pT_q (r : ByteArray × Bool) : Exit → St → Prop := retS Tryd.prog Tryd.f9 (fun y t => y = (.tup [.str r.1, .bool r.2]) ∧ t = [.tab 1 pow10V, .ro 2 deBruijnD, .ro 3 deBruijn32D])
abbrev pT_qs1111 (r : ByteArray × Bool) : Exit → St → Prop := thenS (fun s' => T Tryd.prog 105 (Code.at [1, 1, 1, 1] (codeOf Tryd.f9)) s' ((pT_q r))) ((pT_q r))
abbrev pT_qb0x1111 (r : ByteArray × Bool) : Exit → St → Prop := inBlockS 0 ((pT_qs1111 r))
abbrev pT_ql111010 (r : ByteArray × Bool) : Exit → St → Prop := thenS (fun s' => TL Tryd.prog 105 (Code.at [1, 1, 1, 0, 1, 0, 0] (codeOf Tryd.f9)) s' ((pT_qb0x1111 r))) ((pT_qb0x1111 r))
abbrev pT_qs1110100111 (r : ByteArray × Bool) : Exit → St → Prop := thenS (fun s' => T Tryd.prog 105 (Code.at [1, 1, 1, 0, 1, 0, 0, 1, 1, 1] (codeOf Tryd.f9)) s' ((pT_ql111010 r))) ((pT_ql111010 r))
abbrev pT_qb1_0x1110100111 (r : ByteArray × Bool) : Exit → St → Prop := inBlockS 1 ((pT_qs1110100111 r))
abbrev pT_qs11101001100111 (r : ByteArray × Bool) : Exit → St → Prop := thenS (fun s' => T Tryd.prog 105 (Code.at [1, 1, 1, 0, 1, 0, 0, 1, 1, 0, 0, 1, 1, 1] (codeOf Tryd.f9)) s' ((pT_qb1_0x1110100111 r))) ((pT_qb1_0x1110100111 r))
abbrev pT_qb2_1_0x11101001100111 (r : ByteArray × Bool) : Exit → St → Prop := inBlockS 2 ((pT_qs11101001100111 r))
abbrev pT_ql1110100110011010 (r : ByteArray × Bool) : Exit → St → Prop := thenS (fun s' => TL Tryd.prog 105 (Code.at [1, 1, 1, 0, 1, 0, 0, 1, 1, 0, 0, 1, 1, 0, 1, 0, 0] (codeOf Tryd.f9)) s' ((pT_qb2_1_0x11101001100111 r))) ((pT_qb2_1_0x11101001100111 r))
abbrev pT_qs11101001100110100111 (r : ByteArray × Bool) : Exit → St → Prop := thenS (fun s' => T Tryd.prog 105 (Code.at [1, 1, 1, 0, 1, 0, 0, 1, 1, 0, 0, 1, 1, 0, 1, 0, 0, 1, 1, 1] (codeOf Tryd.f9)) s' ((pT_ql1110100110011010 r))) ((pT_ql1110100110011010 r))
abbrev pT_qb3_2_1_0x11101001100110100111 (r : ByteArray × Bool) : Exit → St → Prop := inBlockS 3 ((pT_qs11101001100110100111 r))
abbrev pT_l1_H (r : ByteArray × Bool) (go : (List aNd) → Int → Int → Int → (List Int) → Int → Int → (List ByteArray) → Int → Arr4 → (List Int) → Int → Int → ByteArray → (List ByteArray) → Option (ByteArray × Bool)) : Prop := ∀ (x0 : List aNd) (b : Int) (f : Int) (g : Int) (i : List Int) (j : Int) (l : Int) (m : List ByteArray) (n : Int) (a : Arr4) (p : List Int) (q : Int) (s : Int) (u : ByteArray) (v : List ByteArray) (flx0 : Bool) (w : Value) (y : Nat) (z : Value), go x0 b f g i j l m n a p q s u v = some r → TL Tryd.prog 105 (Code.at [1, 1, 1, 0, 1, 0, 0, 1, 1, 0, 0, 1, 1, 0, 1, 0, 0] (codeOf Tryd.f9)) ⟨[(0, .sl flx0 9 (x0.map c_aNd)), (4, .c (.ex w)), (5, .int .i64 b), (6, .ptr y 0), (7, .c (.ex z)), (17, .sl flx0 9 (x0.map c_aNd)), (18, .int .i64 f), (19, .int .i64 g), (25, .sl false 1 (i.map (cI .i64))), (26, .int .i64 j), (27, .int .i64 l)], [.arrX w 9 1 0 (m.map cS), .box y 42 [.d (.int .u8 n), .d (.int .u64 a.a0), .d (.int .u64 a.a1), .d (.int .u64 a.a2), .d (.int .u64 a.a3), .d (.sl false 1 (p.map (cI .i64))), .d (.int .i64 q), .d (.int .i64 s), .d (.str u)], .arrX z 9 1 0 (v.map cS), .tab 1 pow10V, .ro 2 deBruijnD, .ro 3 deBruijn32D]⟩ (pT_qb2_1_0x11101001100111 r)
theorem pT_j2_T {r : ByteArray × Bool} (K : Nat) (go1 : (List aNd) → Int → Int → Int → (List Int) → Int → Int → (List ByteArray) → Int → Arr4 → (List Int) → Int → Int → ByteArray → (List ByteArray) → Option (ByteArray × Bool)) (hgo1 : pT_l1_H r go1) (x0 : List aNd) (j : Int) (b : ByteArray) (l : Int) (m : Int) (p : List Int) (q : Int) (u : Int) (v : List ByteArray) (w : Int) (a : Arr4) (y : List Int) (aa : Int) (ab : Int) (ac : ByteArray) (g : List ByteArray) (flx0 : Bool) (ad : Value) (af : Nat) (ag : Value) (h : pT_j2 K go1 x0 j b l m p q u v w a y aa ab ac g = some r) : T Tryd.prog 105 (Code.at [1, 1, 1, 0, 1, 0, 0, 1, 1, 0, 0, 1, 1, 0, 1, 0, 0, 1, 1, 0, 0, 1, 1, 1] (codeOf Tryd.f9)) ⟨[(0, .sl flx0 9 (x0.map c_aNd)), (4, .c (.ex ad)), (5, .int .i64 j), (6, .ptr af 0), (7, .c (.ex ag)), (10, .str b), (17, .sl flx0 9 (x0.map c_aNd)), (18, .int .i64 l), (19, .int .i64 m), (25, .sl false 1 (p.map (cI .i64))), (26, .int .i64 q), (27, .int .i64 u)], [.arrX ad 9 1 0 (v.map cS), .box af 42 [.d (.int .u8 w), .d (.int .u64 a.a0), .d (.int .u64 a.a1), .d (.int .u64 a.a2), .d (.int .u64 a.a3), .d (.sl false 1 (y.map (cI .i64))), .d (.int .i64 aa), .d (.int .i64 ab), .d (.str ac)], .arrX ag 9 1 0 (g.map cS), .tab 1 pow10V, .ro 2 deBruijnD, .ro 3 deBruijn32D]⟩ (pT_qb3_2_1_0x11101001100110100111 r) := by
 unfold pT_j2 at h
 refine T.rL ?_
 refine mw rfl ?_
 refine mw rfl ?_
 refine sp rfl (OpT.buildSliceX (elems := ([b] : List ByteArray).map cS) rfl (dk rfl) ul47 i9 (by decide) rfl (all1 rfl) rfl rfl rfl (lenAll rfl) (by decide) (fun al => ?_))
 refine TL'.turn (Turn.sealX 0 rfl) ?_
 refine TL'.turn (Turn.view 48 0 rfl rfl) ?_
 obtain ⟨ai, h⟩ := ck_some h
 refine sp rfl (OpT.appendXM (i := 3) (xs := g) (ys := [b]) (f := cS) rfl (dk rfl) ul47 i9 rfl rfl rfl rfl ai (fun aj => ?_))
 refine aw rfl ?_
 refine TL'.nil (inBlock_normal (tN ?_))
 refine T.rL ?_
 refine sp rfl (OpT.int2 rfl rfl (dk rfl) rfl rfl ?_)
 refine mw rfl ?_
 refine TL'.nil (tN ?_)
 refine TL.by_turn ?_ (hgo1 x0 j l m p q (wI (u + (1 : Int))) v w a y aa ab ac (g ++ [b]) flx0 ad af aj h)
 exact Turn.rp (.cons rfl (.cons rfl (.cons rfl (.cons rfl (.cons rfl (.cons rfl (.cons rfl (.cons rfl (.cons rfl (.cons rfl (.cons rfl (.nil _)))))))))))) (.c (.s .z) (.c (.s .z) (.c (.s .z) (.c (.s .z) (.c (.s .z) (.c (.s .z) (.n _)))))))
abbrev pT_l0_H (r : ByteArray × Bool) (go : (List aNd) → Int → Int → (List ByteArray) → Option (ByteArray × Bool)) : Prop := ∀ (x0 : List aNd) (a : Int) (b : Int) (d : List ByteArray) (flx0 : Bool) (f : Value), go x0 a b d = some r → TL Tryd.prog 105 (Code.at [1, 1, 1, 0, 1, 0, 0] (codeOf Tryd.f9)) ⟨[(0, .sl flx0 9 (x0.map c_aNd)), (4, .c (.ex f)), (17, .sl flx0 9 (x0.map c_aNd)), (18, .int .i64 a), (19, .int .i64 b)], [.arrX f 9 1 0 (d.map cS), .tab 1 pow10V, .ro 2 deBruijnD, .ro 3 deBruijn32D]⟩ (pT_qb0x1111 r)
theorem pT_l1_T {r : ByteArray × Bool} (K : Nat) (go0 : (List aNd) → Int → Int → (List ByteArray) → Option (ByteArray × Bool)) (hgo0 : pT_l0_H r go0) : ∀ (k : Nat), ∀ (x0 : List aNd) (p : Int) (q : Int) (w : Int) (aj : List Int) (am : Int) (an : Int) (g : List ByteArray) (ab : Int) (b : Arr4) (ag : List Int) (ac : Int) (ad : Int) (af : ByteArray) (y : List ByteArray) (flx0 : Bool) (j : Value) (m : Nat) (aa : Value), pT_l1 K go0 k x0 p q w aj am an g ab b ag ac ad af y = some r → TL Tryd.prog 105 (Code.at [1, 1, 1, 0, 1, 0, 0, 1, 1, 0, 0, 1, 1, 0, 1, 0, 0] (codeOf Tryd.f9)) ⟨[(0, .sl flx0 9 (x0.map c_aNd)), (4, .c (.ex j)), (5, .int .i64 p), (6, .ptr m 0), (7, .c (.ex aa)), (17, .sl flx0 9 (x0.map c_aNd)), (18, .int .i64 q), (19, .int .i64 w), (25, .sl false 1 (aj.map (cI .i64))), (26, .int .i64 am), (27, .int .i64 an)], [.arrX j 9 1 0 (g.map cS), .box m 42 [.d (.int .u8 ab), .d (.int .u64 b.a0), .d (.int .u64 b.a1), .d (.int .u64 b.a2), .d (.int .u64 b.a3), .d (.sl false 1 (ag.map (cI .i64))), .d (.int .i64 ac), .d (.int .i64 ad), .d (.str af)], .arrX aa 9 1 0 (y.map cS), .tab 1 pow10V, .ro 2 deBruijnD, .ro 3 deBruijn32D]⟩ (pT_qb2_1_0x11101001100111 r) := by
  intro k
  induction k with
  | zero =>
    intro x0 p q w aj am an g ab b ag ac ad af y flx0 j m aa h
    cases (show (none : Option (ByteArray × Bool)) = some r from h)
  | succ k ih =>
    intro x0 p q w aj am an g ab b ag ac ad af y flx0 j m aa h
    rw [pT_l1] at h
    refine TL.round ?_
    refine T.seq ?_
    refine T.rL ?_
    refine sp rfl (OpT.int2 rfl rfl (dl rfl rfl) rfl rfl ?_)
    refine TL'.nil (tN ?_)
    refine T.seq ?_
    rcases bif_some h with ⟨aq, h⟩ | ⟨aq, h⟩
    · refine T.condT rfl aq ?_
      refine T.skip (tN ?_)
      refine T.seq ?_
      refine T.block ?_
      refine T.seq ?_
      refine T.rL ?_
      obtain ⟨a5, bq, h⟩ := bind_some h
      refine sp rfl (OpT.indexSlM (xs := aj) (f := (cI .i64)) (v := a5) rfl (dl rfl rfl) Tryd.underlying40 i3 rfl rfl bq ?_)
      refine sp rfl (OpT.loadRef rfl (dl rfl rfl) Tryd.underlying3 rfl rfl rfl ?_)
      refine asg rfl rfl rfl rfl rfl ?_
      refine TL'.nil (tN ?_)
      refine T.seq ?_
      refine T.rL ?_
      refine mv rfl rfl rfl rfl rfl ?_
      refine mv rfl rfl rfl rfl rfl ?_
      obtain ⟨ap, a6, h⟩ := bind_some h
      refine sp rfl (OpT.indexXM (n := 0) (xs := g) (f := cS) (old := ap) rfl (dl rfl rfl) Tryd.underlying47 i9 rfl rfl rfl a6 ?_)
      refine sp rfl (OpT.loadXM (i := 0) (xs := g) (f := cS) (old := ap) rfl (dl rfl rfl) Tryd.underlying9 rfl rfl rfl (geti_some a6).2 rfl ?_)
      refine asg rfl rfl rfl rfl rfl ?_
      refine TL'.nil (tN ?_)
      refine T.seq ?_
      refine T.seq ?_
      refine DG.start ?_
      refine DG.step (c := ⟨some 35, .ptr m (0 + 0), [(6, .ptr m 0)], [], []⟩) (fun t hm => One.step rfl (.free rfl) (OpT.fP rfl (dl rfl rfl) Tryd.underlying42 rfl i5 (by decide) hm.s0 rfl)) (Ct.mo rfl rfl) ?_
      refine DG.step (c := ⟨some 36, .int .u8 ab, [(35, .ptr m (0 + 0))], [(1, .box m 42 [.d (.int .u8 ab), .d (.int .u64 b.a0), .d (.int .u64 b.a1), .d (.int .u64 b.a2), .d (.int .u64 b.a3), .d (.sl false 1 (ag.map (cI .i64))), .d (.int .i64 ac), .d (.int .i64 ad), .d (.str af)])], []⟩) (fun t hm => One.step rfl (.free rfl) (OpT.lB (i := 1) rfl (dl rfl rfl) Tryd.underlying5 rfl hm.s0 hm.o0 rfl rfl)) (Ct.mo rfl rfl) ?_
      refine DG.mv rfl rfl rfl rfl rfl rfl ?_
      refine DG.mv rfl rfl rfl rfl rfl rfl ?_
      obtain ⟨a, bs, h⟩ := bind_some h
      refine DG.step (c := ⟨some 39, .ref [.int .u8 a.Op, .int .u64 a.S.a0, .int .u64 a.S.a1, .int .u64 a.S.a2, .int .u64 a.S.a3, .sl false 1 (a.L.map (cI .i64)), .int .i64 a.Lo, .int .i64 a.Hi, .str a.Name], [(37, .sl flx0 9 (x0.map c_aNd)), (38, .int .i64 a5)], [], []⟩) (fun t hm => One.step rfl (.free rfl) (OpT.indexSlM (xs := x0) (f := c_aNd) (v := a) rfl (dl rfl rfl) Tryd.underlying22 i42 hm.s0 hm.s1 bs rfl)) (Ct.mo rfl rfl) ?_
      refine DG.step (c := ⟨some 40, .ref [.int .u8 a.Op, .int .u64 a.S.a0, .int .u64 a.S.a1, .int .u64 a.S.a2, .int .u64 a.S.a3, .sl false 1 (a.L.map (cI .i64)), .int .i64 a.Lo, .int .i64 a.Hi, .str a.Name], [(39, .ref [.int .u8 a.Op, .int .u64 a.S.a0, .int .u64 a.S.a1, .int .u64 a.S.a2, .int .u64 a.S.a3, .sl false 1 (a.L.map (cI .i64)), .int .i64 a.Lo, .int .i64 a.Hi, .str a.Name])], [], []⟩) (fun t hm => One.step rfl (.free rfl) (OpT.fieldRef rfl (dl rfl rfl) Tryd.underlying42 rfl i5 (by decide) hm.s0 rfl)) (Ct.mo rfl rfl) ?_
      refine DG.step (c := ⟨some 41, .int .u8 a.Op, [(40, .ref [.int .u8 a.Op, .int .u64 a.S.a0, .int .u64 a.S.a1, .int .u64 a.S.a2, .int .u64 a.S.a3, .sl false 1 (a.L.map (cI .i64)), .int .i64 a.Lo, .int .i64 a.Hi, .str a.Name])], [], []⟩) (fun t hm => One.step rfl (.free rfl) (OpT.loadRef rfl (dl rfl rfl) Tryd.underlying5 rfl hm.s0 rfl rfl)) (Ct.mo rfl rfl) ?_
      obtain ⟨a7, bu, h⟩ := bind_some h
      refine DG.step (c := ⟨some 42, .bool a7, [(36, .int .u8 ab), (41, .int .u8 a.Op)], [], []⟩) (fun t hm => One.step rfl (.free rfl) (OpT.callPA rfl (dl rfl rfl) Tryd.func20 rfl rfl (Args.cons hm.s0 (Args.cons hm.s1 Args.nil)) (CallR.nil (pW_T K bu)) rfl)) (Ct.mo rfl rfl) ?_
      refine DG.fin (s1 := ⟨[(0, .sl flx0 9 (x0.map c_aNd)), (4, .c (.ex j)), (5, .int .i64 p), (6, .ptr m 0), (7, .c (.ex aa)), (10, .str ap), (17, .sl flx0 9 (x0.map c_aNd)), (18, .int .i64 q), (19, .int .i64 w), (25, .sl false 1 (aj.map (cI .i64))), (26, .int .i64 am), (27, .int .i64 an), (42, .bool a7)], [.arrX j 9 1 0 (g.map cS), .box m 42 [.d (.int .u8 ab), .d (.int .u64 b.a0), .d (.int .u64 b.a1), .d (.int .u64 b.a2), .d (.int .u64 b.a3), .d (.sl false 1 (ag.map (cI .i64))), .d (.int .i64 ac), .d (.int .i64 ad), .d (.str af)], .arrX aa 9 1 0 (y.map cS), .tab 1 pow10V, .ro 2 deBruijnD, .ro 3 deBruijn32D]⟩) (ms := [0, 1, 0, 0, 12, 28, 60, 127]) TrydMixed rfl (by kernel_rfl) (by kernel_rfl) (by kernel_rfl) (.cons rfl (.cons rfl (.cons rfl (.cons rfl (.cons rfl (.cons rfl (.cons rfl (.cons rfl (.cons rfl (.cons rfl (.cons rfl (.cons rfl (.cons rfl (.nil _)))))))))))))) rfl (fun u hu => (tN (T.by_turn hu ?_)))
      rcases bif_some h with ⟨au, h⟩ | ⟨au, h⟩
      · refine T.condT rfl au ?_
        refine T.rL ?_
        refine mv rfl rfl rfl rfl rfl ?_
        obtain ⟨bv, h⟩ := ck_some h
        refine sp rfl (OpT.str_add rfl (dl rfl rfl) rfl rfl bv ?_)
        obtain ⟨bw, h⟩ := ck_some h
        refine sp rfl (OpT.str_add rfl (dl rfl rfl) rfl rfl bw ?_)
        refine asg rfl rfl rfl rfl rfl ?_
        refine TL'.nil (tN ?_)
        refine T.by_turn ?_ (pT_j2_T K (pT_l1 K go0 k) ih x0 p (((⟨#[40]⟩ : ByteArray) ++ ap) ++ (⟨#[41]⟩ : ByteArray)) q w aj am an g ab b ag ac ad af y flx0 j m aa h)
        exact Turn.rp (.cons rfl (.cons rfl (.cons rfl (.cons rfl (.cons rfl (.cons rfl (.cons rfl (.cons rfl (.cons rfl (.cons rfl (.cons rfl (.cons rfl (.nil _))))))))))))) (.c .z (.c .z (.c .z (.c .z (.c .z (.c .z (.n _)))))))
      · refine T.condF rfl au ?_
        refine T.skip (tN ?_)
        refine T.by_turn ?_ (pT_j2_T K (pT_l1 K go0 k) ih x0 p ap q w aj am an g ab b ag ac ad af y flx0 j m aa h)
        exact Turn.rp (.cons rfl (.cons rfl (.cons rfl (.cons rfl (.cons rfl (.cons rfl (.cons rfl (.cons rfl (.cons rfl (.cons rfl (.cons rfl (.cons rfl (.nil _))))))))))))) (.c .z (.c .z (.c .z (.c .z (.c .z (.c .z (.n _)))))))
    · refine T.condF rfl aq ?_
      refine T.exit (thenS_exit (thenS_exit (inBlock_exit (tN ?_))))
      refine T.seq ?_
      refine T.rL ?_
      refine sp rfl (OpT.fP rfl (dl rfl rfl) Tryd.underlying42 rfl i5 (by decide) rfl ?_)
      refine sp rfl (OpT.lB (i := 1) rfl (dl rfl rfl) Tryd.underlying5 rfl rfl rfl rfl ?_)
      refine TL'.nil (tN ?_)
      refine T.block ?_
      refine T.seq ?_
      refine T.rL ?_
      refine sp rfl (OpT.int2 rfl rfl (dl rfl rfl) rfl rfl ?_)
      refine asg rfl rfl rfl rfl rfl ?_
      refine TL'.nil (tN ?_)
      rcases bif_some h with ⟨av, h⟩ | ⟨av, h⟩
      · refine T.condT rfl av ?_
        refine T.rL ?_
        refine mv rfl rfl rfl rfl rfl ?_
        refine mv rfl rfl rfl rfl rfl ?_
        refine sp rfl (OpT.fP rfl (dl rfl rfl) Tryd.underlying42 rfl i25 (by decide) rfl ?_)
        refine sp rfl (OpT.lBAgg (i := 1) (l := (Arr4.dc .u64 b)) rfl (dl rfl rfl) Tryd.underlying25 rfl i25 rfl rfl rfl rfl ?_)
        obtain ⟨a8, bz, h⟩ := bind_some h
        refine sp rfl (OpT.callRoA rfl (dl rfl rfl) Tryd.func14 rfl rfl (Args.cons rfl Args.nil) (.cons 4 rfl (.cons 5 rfl (.nil))) (print_Set_T K bz) ?_)
        obtain ⟨a9, ba, h⟩ := bind_some h
        refine sp rfl (OpT.indexXM (n := 0) (xs := g) (f := cS) (old := a9) rfl (dl rfl rfl) Tryd.underlying47 i9 rfl rfl rfl ba ?_)
        refine sp rfl (OpT.storeXM (i := 0) (xs := g) (f := cS) (old := a9) (new := a8) rfl rfl i9 rfl rfl rfl (geti_some ba).2 (Nat.zero_le _) (Nat.le_of_ble_eq_true rfl) rfl ?_)
        refine TL'.nil (inBlock_normal (inBlock_normal (tN ?_)))
        refine T.rL ?_
        refine sp rfl (OpT.int2 rfl rfl (dl rfl rfl) rfl rfl ?_)
        refine mv rfl rfl rfl rfl rfl ?_
        refine TL'.nil (tN ?_)
        refine TL.by_turn ?_ (hgo0 x0 q (wI (w + (1 : Int))) (List.set g (Int.toNat p) a8) flx0 j h)
        exact Turn.rp (.cons rfl (.cons rfl (.cons rfl (.cons rfl (.cons rfl (.nil _)))))) (.c .z (.c (.s (.s .z)) (.c (.s (.s .z)) (.c (.s (.s .z)) (.n _)))))
      · refine T.condF rfl av ?_
        refine T.seq ?_
        refine T.rL ?_
        refine sp rfl (OpT.int2 rfl rfl (dl rfl rfl) rfl rfl ?_)
        refine asg rfl rfl rfl rfl rfl ?_
        refine TL'.nil (tN ?_)
        rcases bif_some h with ⟨aw, h⟩ | ⟨aw, h⟩
        · refine T.condT rfl aw ?_
          refine T.rL ?_
          refine mv rfl rfl rfl rfl rfl ?_
          refine mv rfl rfl rfl rfl rfl ?_
          refine sp rfl (OpT.fP rfl (dl rfl rfl) Tryd.underlying42 rfl i9 (by decide) rfl ?_)
          refine sp rfl (OpT.lB (i := 1) rfl (dl rfl rfl) Tryd.underlying9 rfl rfl rfl rfl ?_)
          obtain ⟨b0, h⟩ := ck_some h
          refine sp rfl (OpT.str_add rfl (dl rfl rfl) rfl rfl b0 ?_)
          obtain ⟨b1, h⟩ := ck_some h
          refine sp rfl (OpT.str_add rfl (dl rfl rfl) rfl rfl b1 ?_)
          obtain ⟨bb, bc, h⟩ := bind_some h
          refine sp rfl (OpT.indexXM (n := 0) (xs := g) (f := cS) (old := bb) rfl (dl rfl rfl) Tryd.underlying47 i9 rfl rfl rfl bc ?_)
          refine sp rfl (OpT.storeXM (i := 0) (xs := g) (f := cS) (old := bb) (new := (((⟨#[123]⟩ : ByteArray) ++ af) ++ (⟨#[125]⟩ : ByteArray))) rfl rfl i9 rfl rfl rfl (geti_some bc).2 (Nat.zero_le _) (Nat.le_of_ble_eq_true rfl) rfl ?_)
          refine TL'.nil (inBlock_normal (inBlock_normal (tN ?_)))
          refine T.rL ?_
          refine sp rfl (OpT.int2 rfl rfl (dl rfl rfl) rfl rfl ?_)
          refine mv rfl rfl rfl rfl rfl ?_
          refine TL'.nil (tN ?_)
          refine TL.by_turn ?_ (hgo0 x0 q (wI (w + (1 : Int))) (List.set g (Int.toNat p) (((⟨#[123]⟩ : ByteArray) ++ af) ++ (⟨#[125]⟩ : ByteArray))) flx0 j h)
          exact Turn.rp (.cons rfl (.cons rfl (.cons rfl (.cons rfl (.cons rfl (.nil _)))))) (.c .z (.c (.s (.s .z)) (.c (.s (.s .z)) (.c (.s (.s .z)) (.n _)))))
        · refine T.condF rfl aw ?_
          refine T.seq ?_
          refine T.rL ?_
          refine sp rfl (OpT.int2 rfl rfl (dl rfl rfl) rfl rfl ?_)
          refine asg rfl rfl rfl rfl rfl ?_
          refine TL'.nil (tN ?_)
          rcases bif_some h with ⟨ay, h⟩ | ⟨ay, h⟩
          · refine T.condT rfl ay ?_
            refine DG.start ?_
            refine DG.mv rfl rfl rfl rfl rfl rfl ?_
            refine DG.mv rfl rfl rfl rfl rfl rfl ?_
            refine DG.mv rfl rfl rfl rfl rfl rfl ?_
            obtain ⟨ai, bd, h⟩ := bind_some h
            refine DG.step (c := ⟨some 75, .el aa 1 (Int.toNat (0 : Int)) 0, [(74, .c (.ex aa))], [(2, .arrX aa 9 1 0 (y.map cS))], []⟩) (fun t hm => One.step rfl (.free rfl) (OpT.indexXM (n := 2) (xs := y) (f := cS) (old := ai) rfl (dl rfl rfl) Tryd.underlying47 i9 hm.s0 hm.o0 rfl bd rfl)) (Ct.mo rfl rfl) ?_
            refine DG.step (c := ⟨some 76, .str ai, [(75, .el aa 1 (Int.toNat (0 : Int)) 0)], [(2, .arrX aa 9 1 0 (y.map cS))], []⟩) (fun t hm => One.step rfl (.free rfl) (OpT.loadXM (i := 2) (xs := y) (f := cS) (old := ai) rfl (dl rfl rfl) Tryd.underlying9 rfl hm.s0 hm.o0 (geti_some bd).2 rfl rfl)) (Ct.mo rfl rfl) ?_
            refine DG.step (c := ⟨some 77, .ptr m (0 + 6), [(6, .ptr m 0)], [], []⟩) (fun t hm => One.step rfl (.free rfl) (OpT.fP rfl (dl rfl rfl) Tryd.underlying42 rfl i3 (by decide) hm.s0 rfl)) (Ct.mo rfl rfl) ?_
            refine DG.step (c := ⟨some 78, .int .i64 ac, [(77, .ptr m (0 + 6))], [(1, .box m 42 [.d (.int .u8 ab), .d (.int .u64 b.a0), .d (.int .u64 b.a1), .d (.int .u64 b.a2), .d (.int .u64 b.a3), .d (.sl false 1 (ag.map (cI .i64))), .d (.int .i64 ac), .d (.int .i64 ad), .d (.str af)])], []⟩) (fun t hm => One.step rfl (.free rfl) (OpT.lB (i := 1) rfl (dl rfl rfl) Tryd.underlying3 rfl hm.s0 hm.o0 rfl rfl)) (Ct.mo rfl rfl) ?_
            refine DG.step (c := ⟨some 79, .ptr m (0 + 7), [(6, .ptr m 0)], [], []⟩) (fun t hm => One.step rfl (.free rfl) (OpT.fP rfl (dl rfl rfl) Tryd.underlying42 rfl i3 (by decide) hm.s0 rfl)) (Ct.mo rfl rfl) ?_
            refine DG.step (c := ⟨some 80, .int .i64 ad, [(79, .ptr m (0 + 7))], [(1, .box m 42 [.d (.int .u8 ab), .d (.int .u64 b.a0), .d (.int .u64 b.a1), .d (.int .u64 b.a2), .d (.int .u64 b.a3), .d (.sl false 1 (ag.map (cI .i64))), .d (.int .i64 ac), .d (.int .i64 ad), .d (.str af)])], []⟩) (fun t hm => One.step rfl (.free rfl) (OpT.lB (i := 1) rfl (dl rfl rfl) Tryd.underlying3 rfl hm.s0 hm.o0 rfl rfl)) (Ct.mo rfl rfl) ?_
            obtain ⟨al, b2, h⟩ := bind_some h
            refine DG.step (c := ⟨some 81, .str al, [(78, .int .i64 ac), (80, .int .i64 ad)], [(3, .tab 1 pow10V)], []⟩) (fun t hm => One.step rfl (.free rfl) (OpT.callRoA rfl (dl rfl rfl) Tryd.func21 rfl rfl (Args.cons hm.s0 (Args.cons hm.s1 Args.nil)) (.tab 3 hm.o0 (.nil)) (print_times_T K b2) rfl)) (Ct.mo rfl rfl) ?_
            obtain ⟨b3, h⟩ := ck_some h
            refine DG.step (c := ⟨some 82, .str (ai ++ al), [(76, .str ai), (81, .str al)], [], []⟩) (fun t hm => One.step rfl (.free rfl) (OpT.str_add rfl (dl rfl rfl) hm.s0 hm.s1 b3 rfl)) (Ct.mo rfl rfl) ?_
            obtain ⟨bf, bg, h⟩ := bind_some h
            refine DG.step (c := ⟨some 83, .el j 1 (Int.toNat p) 0, [(72, .c (.ex j)), (73, .int .i64 p)], [(0, .arrX j 9 1 0 (g.map cS))], []⟩) (fun t hm => One.step rfl (.free rfl) (OpT.indexXM (n := 0) (xs := g) (f := cS) (old := bf) rfl (dl rfl rfl) Tryd.underlying47 i9 hm.s0 hm.o0 hm.s1 bg rfl)) (Ct.mo rfl rfl) ?_
            refine DG.step (c := ⟨none, .any, [(83, .el j 1 (Int.toNat p) 0), (82, .str (ai ++ al))], [(0, .arrX j 9 1 0 (g.map cS))], [(0, .arrX j 9 1 0 ((List.set g (Int.toNat p) (ai ++ al)).map cS))]⟩) (fun t hm => One.step rfl (.free rfl) (OpT.storeXM (i := 0) (xs := g) (f := cS) (old := bf) (new := (ai ++ al)) rfl rfl i9 hm.s0 hm.s1 hm.o0 (geti_some bg).2 (Nat.zero_le _) (Nat.le_of_ble_eq_true rfl) rfl rfl)) (Ct.mo rfl rfl) ?_
            refine DG.fin (s1 := ⟨[(0, .sl flx0 9 (x0.map c_aNd)), (4, .c (.ex j)), (17, .sl flx0 9 (x0.map c_aNd)), (18, .int .i64 q), (19, .int .i64 w)], [.arrX j 9 1 0 ((List.set g (Int.toNat p) (ai ++ al)).map cS), .box m 42 [.d (.int .u8 ab), .d (.int .u64 b.a0), .d (.int .u64 b.a1), .d (.int .u64 b.a2), .d (.int .u64 b.a3), .d (.sl false 1 (ag.map (cI .i64))), .d (.int .i64 ac), .d (.int .i64 ad), .d (.str af)], .arrX aa 9 1 0 (y.map cS), .tab 1 pow10V, .ro 2 deBruijnD, .ro 3 deBruijn32D]⟩) (ms := [0, 0, 0, 4, 12, 0, 32, 0, 128, 480, 1020, 2047, 4095]) TrydMixed rfl (by kernel_rfl) (by kernel_rfl) (by kernel_rfl) (.cons rfl (.cons rfl (.cons rfl (.cons rfl (.cons rfl (.nil _)))))) rfl (fun u hu => (inBlock_normal (inBlock_normal (tN (T.by_turn hu ?_)))))
            refine T.rL ?_
            refine sp rfl (OpT.int2 rfl rfl (dl rfl rfl) rfl rfl ?_)
            refine mv rfl rfl rfl rfl rfl ?_
            refine TL'.nil (tN ?_)
            refine TL.by_turn ?_ (hgo0 x0 q (wI (w + (1 : Int))) (List.set g (Int.toNat p) (ai ++ al)) flx0 j h)
            exact Turn.rp (.cons rfl (.cons rfl (.cons rfl (.cons rfl (.cons rfl (.nil _)))))) (.c .z (.c (.s (.s .z)) (.c (.s (.s .z)) (.c (.s (.s .z)) (.n _)))))
          · refine T.condF rfl ay ?_
            refine T.seq ?_
            refine T.rL ?_
            refine sp rfl (OpT.int2 rfl rfl (dl rfl rfl) rfl rfl ?_)
            refine asg rfl rfl rfl rfl rfl ?_
            refine TL'.nil (tN ?_)
            rcases bif_some h with ⟨az, h⟩ | ⟨az, h⟩
            · refine T.condT rfl az ?_
              refine T.rL ?_
              refine mv rfl rfl rfl rfl rfl ?_
              refine mv rfl rfl rfl rfl rfl ?_
              refine mv rfl rfl rfl rfl rfl ?_
              obtain ⟨bi, b4, h⟩ := bind_some h
              refine sp rfl (OpT.callLent (i := 2) rfl (dl rfl rfl) Tryd.func22 rfl rfl rfl (ArgsB.lentXM (xs := y) (f := cS) rfl (ArgsB.cons rfl ArgsB.nil)) (CallR.nil (strings_Join_T K (flx0 := false) b4)) (.ex _) ?_)
              obtain ⟨bj, bl, h⟩ := bind_some h
              refine sp rfl (OpT.indexXM (n := 0) (xs := g) (f := cS) (old := bj) rfl (dl rfl rfl) Tryd.underlying47 i9 rfl rfl rfl bl ?_)
              refine sp rfl (OpT.storeXM (i := 0) (xs := g) (f := cS) (old := bj) (new := bi) rfl rfl i9 rfl rfl rfl (geti_some bl).2 (Nat.zero_le _) (Nat.le_of_ble_eq_true rfl) rfl ?_)
              refine TL'.nil (inBlock_normal (inBlock_normal (tN ?_)))
              refine T.rL ?_
              refine sp rfl (OpT.int2 rfl rfl (dl rfl rfl) rfl rfl ?_)
              refine mv rfl rfl rfl rfl rfl ?_
              refine TL'.nil (tN ?_)
              refine TL.by_turn ?_ (hgo0 x0 q (wI (w + (1 : Int))) (List.set g (Int.toNat p) bi) flx0 j h)
              exact Turn.rp (.cons rfl (.cons rfl (.cons rfl (.cons rfl (.cons rfl (.nil _)))))) (.c .z (.c (.s (.s .z)) (.c (.s (.s .z)) (.c (.s (.s .z)) (.n _)))))
            · refine T.condF rfl az ?_
              refine T.seq ?_
              refine T.rL ?_
              refine sp rfl (OpT.int2 rfl rfl (dl rfl rfl) rfl rfl ?_)
              refine asg rfl rfl rfl rfl rfl ?_
              refine TL'.nil (tN ?_)
              rcases bif_some h with ⟨a4, h⟩ | ⟨a4, h⟩
              · refine T.condT rfl a4 ?_
                refine T.rL ?_
                refine mv rfl rfl rfl rfl rfl ?_
                refine mv rfl rfl rfl rfl rfl ?_
                refine mv rfl rfl rfl rfl rfl ?_
                obtain ⟨bm, b5, h⟩ := bind_some h
                refine sp rfl (OpT.callLent (i := 2) rfl (dl rfl rfl) Tryd.func22 rfl rfl rfl (ArgsB.lentXM (xs := y) (f := cS) rfl (ArgsB.cons rfl ArgsB.nil)) (CallR.nil (strings_Join_T K (flx0 := false) b5)) (.ex _) ?_)
                obtain ⟨bn, bp, h⟩ := bind_some h
                refine sp rfl (OpT.indexXM (n := 0) (xs := g) (f := cS) (old := bn) rfl (dl rfl rfl) Tryd.underlying47 i9 rfl rfl rfl bp ?_)
                refine sp rfl (OpT.storeXM (i := 0) (xs := g) (f := cS) (old := bn) (new := bm) rfl rfl i9 rfl rfl rfl (geti_some bp).2 (Nat.zero_le _) (Nat.le_of_ble_eq_true rfl) rfl ?_)
                refine TL'.nil (inBlock_normal (inBlock_normal (tN ?_)))
                refine T.rL ?_
                refine sp rfl (OpT.int2 rfl rfl (dl rfl rfl) rfl rfl ?_)
                refine mv rfl rfl rfl rfl rfl ?_
                refine TL'.nil (tN ?_)
                refine TL.by_turn ?_ (hgo0 x0 q (wI (w + (1 : Int))) (List.set g (Int.toNat p) bm) flx0 j h)
                exact Turn.rp (.cons rfl (.cons rfl (.cons rfl (.cons rfl (.cons rfl (.nil _)))))) (.c .z (.c (.s (.s .z)) (.c (.s (.s .z)) (.c (.s (.s .z)) (.n _)))))
              · refine T.condF rfl a4 ?_
                refine T.skip (inBlock_normal (inBlock_normal (tN ?_)))
                refine T.rL ?_
                refine sp rfl (OpT.int2 rfl rfl (dl rfl rfl) rfl rfl ?_)
                refine mv rfl rfl rfl rfl rfl ?_
                refine TL'.nil (tN ?_)
                refine TL.by_turn ?_ (hgo0 x0 q (wI (w + (1 : Int))) g flx0 j h)
                exact Turn.rp (.cons rfl (.cons rfl (.cons rfl (.cons rfl (.cons rfl (.nil _)))))) (.c .z (.c (.s (.s .z)) (.c (.s (.s .z)) (.c (.s (.s .z)) (.n _)))))
theorem pT_l0_T {r : ByteArray × Bool} (K : Nat) : ∀ (k : Nat), ∀ (x0 : List aNd) (j : Int) (g : Int) (b : List ByteArray) (flx0 : Bool) (l : Value), pT_l0 K k x0 j g b = some r → TL Tryd.prog 105 (Code.at [1, 1, 1, 0, 1, 0, 0] (codeOf Tryd.f9)) ⟨[(0, .sl flx0 9 (x0.map c_aNd)), (4, .c (.ex l)), (17, .sl flx0 9 (x0.map c_aNd)), (18, .int .i64 j), (19, .int .i64 g)], [.arrX l 9 1 0 (b.map cS), .tab 1 pow10V, .ro 2 deBruijnD, .ro 3 deBruijn32D]⟩ (pT_qb0x1111 r) := by
  intro k
  induction k with
  | zero =>
    intro x0 j g b flx0 l h
    cases (show (none : Option (ByteArray × Bool)) = some r from h)
  | succ k ih =>
    intro x0 j g b flx0 l h
    rw [pT_l0] at h
    refine TL.round ?_
    refine T.seq ?_
    refine T.rL ?_
    refine sp rfl (OpT.int2 rfl rfl (dl rfl rfl) rfl rfl ?_)
    refine TL'.nil (tN ?_)
    refine T.seq ?_
    rcases bif_some h with ⟨m, h⟩ | ⟨m, h⟩
    · refine T.condT rfl m ?_
      refine T.skip (tN ?_)
      refine T.seq ?_
      refine T.block ?_
      refine T.seq ?_
      refine T.rL ?_
      refine mv rfl rfl rfl rfl rfl ?_
      obtain ⟨a, u, h⟩ := bind_some h
      refine sp rfl (OpT.indexSlM (xs := x0) (f := c_aNd) (v := a) rfl (dl rfl rfl) Tryd.underlying22 i42 rfl rfl u ?_)
      refine sp rfl (OpT.loadRefAgg rfl (dl rfl rfl) Tryd.underlying42 rfl i42 rfl (Nat.le_of_ble_eq_true rfl) ?_)
      refine sp rfl (OpT.alloc' rfl (dl rfl rfl) i42 rfl (fun w => ?_))
      refine asg rfl rfl rfl rfl rfl ?_
      refine sp rfl (OpT.storeAggTo (i := 0) (cells' := [.d (.int .u8 a.Op), .d (.int .u64 a.S.a0), .d (.int .u64 a.S.a1), .d (.int .u64 a.S.a2), .d (.int .u64 a.S.a3), .d (.sl false 1 (a.L.map (cI .i64))), .d (.int .i64 a.Lo), .d (.int .i64 a.Hi), .d (.str a.Name)]) rfl rfl i42 rfl rfl rfl rfl (Nat.le_of_ble_eq_true rfl) rfl ?_)
      refine TL'.nil (tN ?_)
      refine T.seq ?_
      refine T.rL ?_
      refine asg rfl rfl rfl rfl rfl ?_
      refine TL'.nil (tN ?_)
      refine T.seq ?_
      refine T.seq ?_
      refine T.rL ?_
      refine sp rfl (OpT.fP rfl (dl rfl rfl) Tryd.underlying42 rfl i40 (by decide) rfl ?_)
      refine sp rfl (OpT.lB (i := 0) rfl (dl rfl rfl) Tryd.underlying40 rfl rfl rfl rfl ?_)
      refine sp rfl (OpT.lenSlM (xs := a.L) (f := (cI .i64)) rfl (dl rfl rfl) Tryd.underlying40 rfl ?_)
      refine mv rfl rfl rfl rfl rfl ?_
      refine TL'.nil (tN ?_)
      refine T.block ?_
      refine T.loop ?_
      refine TL.by_turn (Turn.nilX 9 1) ?_
      refine TL.by_turn ?_ (pT_l1_T K (pT_l0 K k) ih K x0 g j g a.L (a.L.length : Int) (0 : Int) b a.Op a.S a.L a.Lo a.Hi a.Name [] flx0 l w (nilv 2) h)
      exact Turn.rp (.cons rfl (.cons rfl (.cons rfl (.cons rfl (.cons rfl (.cons rfl (.cons rfl (.cons rfl (.cons rfl (.cons rfl (.cons rfl (.nil _)))))))))))) (.c (.s (.s .z)) (.c (.s .z) (.c .z (.c .z (.c .z (.c .z (.n _)))))))
    · refine T.condF rfl m ?_
      refine T.exit (thenS_exit (thenS_exit (inBlock_exit (tN ?_))))
      refine T.seq ?_
      refine T.rL ?_
      refine mv rfl rfl rfl rfl rfl ?_
      refine mv rfl rfl rfl rfl rfl ?_
      refine sp rfl (OpT.lenSlM (xs := x0) (f := c_aNd) rfl (dl rfl rfl) Tryd.underlying22 rfl ?_)
      refine sp rfl (OpT.int2 rfl rfl (dl rfl rfl) rfl rfl ?_)
      obtain ⟨p, q, h⟩ := bind_some h
      refine sp rfl (OpT.indexXM (n := 0) (xs := b) (f := cS) (old := p) rfl (dl rfl rfl) Tryd.underlying47 i9 rfl rfl rfl q ?_)
      refine sp rfl (OpT.loadXM (i := 0) (xs := b) (f := cS) (old := p) rfl (dl rfl rfl) Tryd.underlying9 rfl rfl rfl (geti_some q).2 rfl ?_)
      refine asg rfl rfl rfl rfl rfl ?_
      refine asg rfl rfl rfl rfl rfl ?_
      refine TL'.nil (tN ?_)
      refine T.ret ?_
      exact Fin.doneK (.cons _ _ _ _ (.tmp 2 _ rfl) (.cons _ _ _ _ (.tmp 3 _ rfl) .nil)) (.cons 1 rfl (.cons 1 rfl (.cons 1 rfl (.nil _)))) (by cases h; exact ⟨rfl, rfl⟩)
theorem pT_T (K : Nat) {x0 : List aNd} {flx0 : Bool} {r : ByteArray × Bool} (h : pT K x0 = some r) : CallR Tryd.prog 9 [.sl flx0 9 (x0.map c_aNd)] [.tab 1 pow10V, .ro 2 deBruijnD, .ro 3 deBruijn32D] (.tup [.str r.1, .bool r.2]) := by
 refine CallT.intro Tryd.func9 rfl (nb rfl) ?_
 show T Tryd.prog 105 (Code.at [] (codeOf Tryd.f9)) ⟨paramSlots 0 [.sl flx0 9 (x0.map c_aNd)], [.tab 1 pow10V, .ro 2 deBruijnD, .ro 3 deBruijn32D]⟩ (pT_q r)
 unfold pT at h
 refine T.seq (T.rL ?_)
 refine aw rfl ?_
 refine aw rfl ?_
 refine TL'.nil (tN ?_)
 refine T.seq ?_
 refine T.seq (T.rL ?_)
 refine mw rfl ?_
 obtain ⟨j, b, h⟩ := bind_some h
 refine sp rfl (OpT.callPA rfl (dk rfl) Tryd.func16 rfl rfl (Args.cons rfl Args.nil) (CallR.nil (sy_Right_T K (flx0 := flx0) b)) ?_)
 refine sp rfl (OpT.not rfl (dk rfl) rfl ?_)
 refine TL'.nil (tN ?_)
 rcases bif_some h with ⟨a, h⟩ | ⟨a, h⟩
 refine T.condT rfl a ?_
 refine T.seq (T.rL ?_)
 refine aw rfl ?_
 refine aw rfl ?_
 refine TL'.nil (tN ?_)
 refine T.ret (thenS_ret ?_)
 exact Fin.doneK (.cons _ _ _ _ (.tmp 2 _ rfl) (.cons _ _ _ _ (.tmp 3 _ rfl) .nil)) (.cons 0 rfl (.cons 0 rfl (.cons 0 rfl (.nil _)))) (by cases h; exact ⟨rfl, rfl⟩)
 refine T.condF rfl a ?_
 refine T.skip (tN ?_)
 refine T.seq (T.rL ?_)
 refine mw rfl ?_
 refine sp rfl (OpT.lenSlM (xs := x0) (f := c_aNd) rfl (dk rfl) ul22 rfl ?_)
 obtain ⟨d, h⟩ := ck_some h
 obtain ⟨g, h⟩ := ck_some h
 refine sp rfl (OpT.makeSliceX (f := cS) (zv := ((⟨#[]⟩ : ByteArray) : ByteArray)) rfl (dk rfl) ul47 i9 (by decide) rfl rfl rfl rfl rfl d g (fun i => ?_))
 refine aw rfl ?_
 refine TL'.nil (tN ?_)
 refine T.seq ?_
 refine T.seq (T.rL ?_)
 refine mw rfl ?_
 refine sp rfl (OpT.lenSlM (xs := x0) (f := c_aNd) rfl (dk rfl) ul22 rfl ?_)
 refine mw rfl ?_
 refine TL'.nil (tN ?_)
 refine T.block ?_
 refine T.loop ?_
 refine TL.by_turn ?_ (pT_l0_T K K x0 (x0.length : Int) (0 : Int) (List.replicate (Int.toNat (x0.length : Int)) ((⟨#[]⟩ : ByteArray) : ByteArray)) flx0 i h)
 exact Turn.rp (.cons rfl (.cons rfl (.cons rfl (.cons rfl (.cons rfl (.nil _)))))) (.c .z (.c .z (.c .z (.c .z (.n _)))))
abbrev l5_shown_q (r : Bool) : Exit → St → Prop := retS Tryd.prog Tryd.f11 (fun y t => y = (.bool r) ∧ t = [.tab 1 pow10V, .ro 2 deBruijnD, .ro 3 deBruijn32D])
theorem l5_shown_T (K : Nat) {r : Bool} (h : l5_shown K = some r) : CallR Tryd.prog 11 [] [.tab 1 pow10V, .ro 2 deBruijnD, .ro 3 deBruijn32D] (.bool r) := by
 refine CallT.intro Tryd.func11 rfl (nb rfl) ?_
 show T Tryd.prog 21 (Code.at [] (codeOf Tryd.f11)) ⟨paramSlots 0 [], [.tab 1 pow10V, .ro 2 deBruijnD, .ro 3 deBruijn32D]⟩ (l5_shown_q r)
 unfold l5_shown at h
 refine T.seq (T.rL ?_)
 refine aw rfl ?_
 refine TL'.nil (tN (T.seq (T.rL ?_)))
 obtain ⟨d, b, h⟩ := bind_some h
 refine sp rfl (OpT.callPA rfl (dk rfl) Tryd.func25 rfl rfl (Args.cons rfl Args.nil) (CallR.nil (r4_Parse_T K b)) ?_)
 refine mw rfl ?_
 refine sp rfl (OpT.extract rfl (dk rfl) rfl rfl ?_)
 refine sp rfl (OpT.extract rfl (dk rfl) rfl rfl ?_)
 refine sp rfl (OpT.extract rfl (dk rfl) rfl rfl ?_)
 refine aw rfl ?_
 refine aw rfl ?_
 refine aw rfl ?_
 refine TL'.nil (tN (T.seq (T.rL ?_)))
 refine mw rfl ?_
 obtain ⟨f, c, h⟩ := bind_some h
 refine sp rfl (OpT.callRoA rfl (dk rfl) Tryd.func9 rfl rfl (Args.cons rfl Args.nil) (.tab 0 rfl (.cons 1 rfl (.cons 2 rfl (.nil)))) (pT_T K (flx0 := false) c) ?_)
 refine mw rfl ?_
 refine sp rfl (OpT.extract rfl (dk rfl) rfl rfl ?_)
 refine sp rfl (OpT.extract rfl (dk rfl) rfl rfl ?_)
 refine aw rfl ?_
 refine aw rfl ?_
 refine TL'.nil (tN (T.seq (T.rL ?_)))
 refine mw rfl ?_
 refine sp rfl (OpT.str_eql rfl (dk rfl) rfl rfl ?_)
 refine mw rfl ?_
 rcases bif_some h with ⟨a, h⟩ | ⟨a, h⟩
 refine TL'.step (.on rfl rfl rfl a) (OpT.move rfl (dk rfl) rfl ?_)
 refine sp rfl (OpT.pickT rfl (dk rfl) rfl a rfl ?_)
 refine aw rfl ?_
 refine TL'.nil (tN ?_)
 refine T.ret ?_
 exact Fin.doneK (.cons _ _ _ _ (.tmp 0 _ rfl) .nil) (.cons 0 rfl (.cons 0 rfl (.cons 0 rfl (.nil _)))) (by cases h; exact ⟨rfl, rfl⟩)
 refine TL'.pU (.off _ _ _ _ rfl rfl rfl a) (dk rfl) ?_
 refine sp rfl (OpT.pickF rfl (dk rfl) rfl a rfl ?_)
 refine aw rfl ?_
 refine TL'.nil (tN ?_)
 refine T.ret ?_
 exact Fin.doneK (.cons _ _ _ _ (.tmp 0 _ rfl) .nil) (.cons 0 rfl (.cons 0 rfl (.cons 0 rfl (.nil _)))) (by cases h; exact ⟨rfl, rfl⟩)
end Go.Rv

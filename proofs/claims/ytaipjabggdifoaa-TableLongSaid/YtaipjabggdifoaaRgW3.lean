/- Each function computes what its plain text says: printed by a program of ours. -/
import Derived.Test.YtaipjabggdifoaaRgW2
namespace Go.Rv
open Go.Proofs
set_option maxRecDepth 100000
set_option maxHeartbeats 4000000
set_option linter.unusedVariables false

abbrev raddleref09_rises_q (r : Bool) : Exit → St → Prop := retS Try.prog Try.f68 (fun y t => y = (.bool r) ∧ t = [])

abbrev raddleref09_rises_qs11 (r : Bool) : Exit → St → Prop := thenS (fun s' => T Try.prog 41 (Code.at [1, 1] (codeOf Try.f68)) s' ((raddleref09_rises_q r))) ((raddleref09_rises_q r))

abbrev raddleref09_rises_qb0x11 (r : Bool) : Exit → St → Prop := inBlockS 0 ((raddleref09_rises_qs11 r))

abbrev raddleref09_rises_ql1010 (r : Bool) : Exit → St → Prop := thenS (fun s' => TL Try.prog 41 (Code.at [1, 0, 1, 0, 0] (codeOf Try.f68)) s' ((raddleref09_rises_qb0x11 r))) ((raddleref09_rises_qb0x11 r))

abbrev raddleref09_rises_qs1010011 (r : Bool) : Exit → St → Prop := thenS (fun s' => T Try.prog 41 (Code.at [1, 0, 1, 0, 0, 1, 1] (codeOf Try.f68)) s' ((raddleref09_rises_ql1010 r))) ((raddleref09_rises_ql1010 r))

abbrev raddleref09_rises_qb1_0x1010011 (r : Bool) : Exit → St → Prop := inBlockS 1 ((raddleref09_rises_qs1010011 r))

theorem raddleref09_rises_j1_T {r : Bool} (K : Nat) (h : raddleref09_rises_j1 K = some r) : T Try.prog 41 (Code.at [1, 0, 1, 0, 0, 1, 0, 0, 1, 0] (codeOf Try.f68)) ⟨[], []⟩ (raddleref09_rises_qb1_0x1010011 r) := by
  unfold raddleref09_rises_j1 at h
  refine T.seq ?_
  refine T.regionL ?_
  refine asg rfl rfl rfl rfl rfl ?_
  refine TL'.nil (thenS_normal ?_)
  refine T.ret (inBlock_ret (thenS_ret (thenS_ret (inBlock_ret (thenS_ret ?_)))))
  exact Fin.done (.cons _ _ _ _ (.tmp 4 _ rfl) .nil) (by cases h; exact ⟨rfl, rfl⟩)

theorem raddleref09_rises_l0_T {r : Bool} (K : Nat) : ∀ (k : Nat), ∀ (x0 : List Int) (x1 : Int) (x5_0_2 : Int) (flx0 : Bool), raddleref09_rises_l0 K k x0 x1 x5_0_2 = some r → TL Try.prog 41 (Code.at [1, 0, 1, 0, 0] (codeOf Try.f68)) ⟨[(0, .sl flx0 1 (x0.map (cI .i64))), (1, .int .i64 x1), (5, .int .i64 x5_0_2)], []⟩ (raddleref09_rises_qb0x11 r) := by
  intro k
  induction k with
  | zero =>
    intro x0 x1 x5_0_2 flx0 h
    cases (show (none : Option Bool) = some r from h)
  | succ k ih =>
    intro x0 x1 x5_0_2 flx0 h
    rw [raddleref09_rises_l0] at h
    refine TL.round ?_
    refine T.seq ?_
    refine T.seq ?_
    refine T.regionL ?_
    refine mv rfl rfl rfl rfl rfl ?_
    refine mv rfl rfl rfl rfl rfl ?_
    refine sp rfl (OpT.lenSlM (xs := x0) (f := (cI .i64)) rfl (dl rfl rfl) Try.underlying56 rfl ?_)
    refine sp rfl (OpT.int2 rfl rfl (dl rfl rfl) rfl rfl ?_)
    refine TL'.nil (thenS_normal ?_)
    rcases bif_some h with ⟨c_126, h⟩ | ⟨c_126, h⟩
    · refine T.condT rfl c_126 ?_
      refine T.skip (thenS_normal ?_)
      refine T.seq ?_
      refine T.block ?_
      refine T.seq ?_
      refine DG.start ?_
      refine DG.mv rfl rfl rfl rfl rfl rfl ?_
      refine DG.mv rfl rfl rfl rfl rfl rfl ?_
      obtain ⟨v_135, e_136, h⟩ := bind_some h
      refine DG.step (c := ⟨some 14, .ref [.int .i64 v_135], [(12, .sl flx0 1 (x0.map (cI .i64))), (13, .int .i64 x5_0_2)], [], []⟩) (fun t hm => One.step rfl (.free rfl) (OpT.indexSlM (xs := x0) (f := (cI .i64)) (v := v_135) rfl (dl rfl rfl) Try.underlying56 i3 hm.s0 hm.s1 e_136 rfl)) (Ct.met_of rfl rfl) ?_
      refine DG.step (c := ⟨some 15, .int .i64 v_135, [(14, .ref [.int .i64 v_135])], [], []⟩) (fun t hm => One.step rfl (.free rfl) (OpT.loadRef rfl (dl rfl rfl) Try.underlying3 rfl hm.s0 rfl rfl)) (Ct.met_of rfl rfl) ?_
      refine DG.step (c := ⟨some 16, .bool (decide (v_135 < (0 : Int))), [(15, .int .i64 v_135)], [], []⟩) (fun t hm => One.step rfl (.free rfl) (OpT.int2 rfl rfl (dl rfl rfl) hm.s0 rfl rfl)) (Ct.met_of rfl rfl) ?_
      refine DG.mv rfl rfl rfl rfl rfl rfl ?_
      rcases bif_some h with ⟨c_137, h⟩ | ⟨c_137, h⟩
      · refine DG.off c_137 rfl rfl rfl rfl rfl rfl ?_
        refine DG.off c_137 rfl rfl rfl rfl rfl rfl ?_
        refine DG.off c_137 rfl rfl rfl rfl rfl rfl ?_
        refine DG.off c_137 rfl rfl rfl rfl rfl rfl ?_
        refine DG.off c_137 rfl rfl rfl rfl rfl rfl ?_
        refine DG.off c_137 rfl rfl rfl rfl rfl rfl ?_
        refine DG.step (c := ⟨some 24, .bool true, [(17, .bool (decide (v_135 < (0 : Int))))], [], []⟩) (fun t hm => One.step rfl (.free rfl) (OpT.pickT rfl (dl rfl rfl) hm.s0 c_137 rfl rfl)) (Ct.met_of rfl rfl) ?_
        refine DG.mv rfl rfl rfl rfl rfl rfl ?_
        refine DG.off rfl rfl rfl rfl rfl rfl rfl ?_
        refine DG.off rfl rfl rfl rfl rfl rfl rfl ?_
        refine DG.off rfl rfl rfl rfl rfl rfl rfl ?_
        refine DG.gone rfl rfl rfl rfl rfl rfl ?_
        refine DG.gone rfl rfl rfl rfl rfl rfl ?_
        refine DG.gone rfl rfl rfl rfl rfl rfl ?_
        refine DG.gone rfl rfl rfl rfl rfl rfl ?_
        refine DG.gone rfl rfl rfl rfl rfl rfl ?_
        refine DG.gone rfl rfl rfl rfl rfl rfl ?_
        refine DG.gone rfl rfl rfl rfl rfl rfl ?_
        refine DG.gone rfl rfl rfl rfl rfl rfl ?_
        refine DG.gone rfl rfl rfl rfl rfl rfl ?_
        refine DG.gone rfl rfl rfl rfl rfl rfl ?_
        refine DG.off rfl rfl rfl rfl rfl rfl rfl ?_
        refine DG.step (c := ⟨some 40, .bool true, [(25, .bool true)], [], []⟩) (fun t hm => One.step rfl (.free rfl) (OpT.pickT rfl (dl rfl rfl) hm.s0 rfl rfl rfl)) (Ct.met_of rfl rfl) ?_
        refine DG.fin (s1 := ⟨[(0, .sl flx0 1 (x0.map (cI .i64))), (1, .int .i64 x1), (5, .int .i64 x5_0_2), (18, .tup []), (19, .tup []), (20, .tup []), (21, .tup []), (22, .tup []), (23, .tup []), (26, .tup []), (27, .tup []), (28, .tup []), (29, .tup []), (30, .tup []), (31, .tup []), (32, .tup []), (33, .tup []), (34, .tup []), (35, .tup []), (36, .tup []), (37, .tup []), (38, .tup []), (39, .tup []), (40, .bool true)], []⟩) (ms := [0, 0, 3, 7, 15, 31, 63, 63, 255, 511, 63, 2047, 4095, 8191, 16383, 32767, 65535, 131071, 131071, 393215, 1048575, 2097151, 131071, 131071, 12713983, 29491199, 67108863, 134217727, 268435455]) TryMixed rfl (by kernel_rfl) (by kernel_rfl) (by kernel_rfl) (.cons rfl (.cons rfl (.cons rfl (.cons rfl (.cons rfl (.cons rfl (.cons rfl (.cons rfl (.cons rfl (.cons rfl (.cons rfl (.cons rfl (.cons rfl (.cons rfl (.cons rfl (.cons rfl (.cons rfl (.cons rfl (.cons rfl (.cons rfl (.cons rfl (.cons rfl (.cons rfl (.cons rfl (.nil _))))))))))))))))))))))))) rfl (fun u hu => (thenS_normal (T.by_turn hu ?_)))
        refine T.condT rfl rfl ?_
        refine T.by_turn ?_ (raddleref09_rises_j1_T K h)
        exact Turn.rp (.nil _) (.n _)
      · refine DG.step (c := ⟨some 18, .sl flx0 1 (x0.map (cI .i64)), [(0, .sl flx0 1 (x0.map (cI .i64))), (17, .bool (decide (v_135 < (0 : Int))))], [], []⟩) (fun t hm => One.step rfl (.on rfl rfl hm.s1 c_137) (OpT.move rfl (dl rfl rfl) hm.s0 rfl)) (Ct.met_of rfl rfl) ?_
        refine DG.step (c := ⟨some 19, .int .i64 x5_0_2, [(5, .int .i64 x5_0_2), (17, .bool (decide (v_135 < (0 : Int))))], [], []⟩) (fun t hm => One.step rfl (.on rfl rfl hm.s1 c_137) (OpT.move rfl (dl rfl rfl) hm.s0 rfl)) (Ct.met_of rfl rfl) ?_
        refine DG.step (c := ⟨some 20, .ref [.int .i64 v_135], [(18, .sl flx0 1 (x0.map (cI .i64))), (19, .int .i64 x5_0_2), (17, .bool (decide (v_135 < (0 : Int))))], [], []⟩) (fun t hm => One.step rfl (.on rfl rfl hm.s2 c_137) (OpT.indexSlM (xs := x0) (f := (cI .i64)) (v := v_135) rfl (dl rfl rfl) Try.underlying56 i3 hm.s0 hm.s1 e_136 rfl)) (Ct.met_of rfl rfl) ?_
        refine DG.step (c := ⟨some 21, .int .i64 v_135, [(20, .ref [.int .i64 v_135]), (17, .bool (decide (v_135 < (0 : Int))))], [], []⟩) (fun t hm => One.step rfl (.on rfl rfl hm.s1 c_137) (OpT.loadRef rfl (dl rfl rfl) Try.underlying3 rfl hm.s0 rfl rfl)) (Ct.met_of rfl rfl) ?_
        refine DG.step (c := ⟨some 22, .int .i64 x1, [(1, .int .i64 x1), (17, .bool (decide (v_135 < (0 : Int))))], [], []⟩) (fun t hm => One.step rfl (.on rfl rfl hm.s1 c_137) (OpT.move rfl (dl rfl rfl) hm.s0 rfl)) (Ct.met_of rfl rfl) ?_
        refine DG.step (c := ⟨some 23, .bool (decide (v_135 ≥ x1)), [(21, .int .i64 v_135), (22, .int .i64 x1), (17, .bool (decide (v_135 < (0 : Int))))], [], []⟩) (fun t hm => One.step rfl (.on rfl rfl hm.s2 c_137) (OpT.int2 rfl rfl (dl rfl rfl) hm.s0 hm.s1 rfl)) (Ct.met_of rfl rfl) ?_
        refine DG.step (c := ⟨some 24, .bool (decide (v_135 ≥ x1)), [(17, .bool (decide (v_135 < (0 : Int)))), (23, .bool (decide (v_135 ≥ x1)))], [], []⟩) (fun t hm => One.step rfl (.free rfl) (OpT.pickF rfl (dl rfl rfl) hm.s0 c_137 hm.s1 rfl)) (Ct.met_of rfl rfl) ?_
        refine DG.mv rfl rfl rfl rfl rfl rfl ?_
        rcases bif_some h with ⟨c_138, h⟩ | ⟨c_138, h⟩
        · refine DG.off c_138 rfl rfl rfl rfl rfl rfl ?_
          refine DG.off c_138 rfl rfl rfl rfl rfl rfl ?_
          refine DG.off c_138 rfl rfl rfl rfl rfl rfl ?_
          refine DG.gone rfl rfl rfl rfl rfl rfl ?_
          refine DG.gone rfl rfl rfl rfl rfl rfl ?_
          refine DG.gone rfl rfl rfl rfl rfl rfl ?_
          refine DG.gone rfl rfl rfl rfl rfl rfl ?_
          refine DG.gone rfl rfl rfl rfl rfl rfl ?_
          refine DG.gone rfl rfl rfl rfl rfl rfl ?_
          refine DG.gone rfl rfl rfl rfl rfl rfl ?_
          refine DG.gone rfl rfl rfl rfl rfl rfl ?_
          refine DG.gone rfl rfl rfl rfl rfl rfl ?_
          refine DG.gone rfl rfl rfl rfl rfl rfl ?_
          refine DG.off c_138 rfl rfl rfl rfl rfl rfl ?_
          refine DG.step (c := ⟨some 40, .bool true, [(25, .bool (decide (v_135 ≥ x1)))], [], []⟩) (fun t hm => One.step rfl (.free rfl) (OpT.pickT rfl (dl rfl rfl) hm.s0 c_138 rfl rfl)) (Ct.met_of rfl rfl) ?_
          refine DG.fin (s1 := ⟨[(0, .sl flx0 1 (x0.map (cI .i64))), (1, .int .i64 x1), (5, .int .i64 x5_0_2), (18, .sl flx0 1 (x0.map (cI .i64))), (19, .int .i64 x5_0_2), (20, .ref [.int .i64 v_135]), (21, .int .i64 v_135), (22, .int .i64 x1), (23, .bool (decide (v_135 ≥ x1))), (26, .tup []), (27, .tup []), (28, .tup []), (29, .tup []), (30, .tup []), (31, .tup []), (32, .tup []), (33, .tup []), (34, .tup []), (35, .tup []), (36, .tup []), (37, .tup []), (38, .tup []), (39, .tup []), (40, .bool true)], []⟩) (ms := [0, 0, 3, 7, 15, 31, 63, 63, 255, 511, 63, 2047, 4095, 8191, 16383, 32767, 65535, 131071, 131071, 393215, 1048575, 2097151, 131071, 131071, 12713983, 29491199, 67108863, 134217727, 268435455]) TryMixed rfl (by kernel_rfl) (by kernel_rfl) (by kernel_rfl) (.cons rfl (.cons rfl (.cons rfl (.cons rfl (.cons rfl (.cons rfl (.cons rfl (.cons rfl (.cons rfl (.cons rfl (.cons rfl (.cons rfl (.cons rfl (.cons rfl (.cons rfl (.cons rfl (.cons rfl (.cons rfl (.cons rfl (.cons rfl (.cons rfl (.cons rfl (.cons rfl (.cons rfl (.nil _))))))))))))))))))))))))) rfl (fun u hu => (thenS_normal (T.by_turn hu ?_)))
          refine T.condT rfl rfl ?_
          refine T.by_turn ?_ (raddleref09_rises_j1_T K h)
          exact Turn.rp (.nil _) (.n _)
        · refine DG.step (c := ⟨some 26, .int .i64 x5_0_2, [(5, .int .i64 x5_0_2), (25, .bool (decide (v_135 ≥ x1)))], [], []⟩) (fun t hm => One.step rfl (.on rfl rfl hm.s1 c_138) (OpT.move rfl (dl rfl rfl) hm.s0 rfl)) (Ct.met_of rfl rfl) ?_
          refine DG.step (c := ⟨some 27, .bool (decide (x5_0_2 > (0 : Int))), [(26, .int .i64 x5_0_2), (25, .bool (decide (v_135 ≥ x1)))], [], []⟩) (fun t hm => One.step rfl (.on rfl rfl hm.s1 c_138) (OpT.int2 rfl rfl (dl rfl rfl) hm.s0 rfl rfl)) (Ct.met_of rfl rfl) ?_
          refine DG.step (c := ⟨some 28, .bool (decide (x5_0_2 > (0 : Int))), [(27, .bool (decide (x5_0_2 > (0 : Int)))), (25, .bool (decide (v_135 ≥ x1)))], [], []⟩) (fun t hm => One.step rfl (.on rfl rfl hm.s1 c_138) (OpT.move rfl (dl rfl rfl) hm.s0 rfl)) (Ct.met_of rfl rfl) ?_
          rcases bif_some h with ⟨c_139, h⟩ | ⟨c_139, h⟩
          · refine DG.step (c := ⟨some 29, .sl flx0 1 (x0.map (cI .i64)), [(0, .sl flx0 1 (x0.map (cI .i64))), (28, .bool (decide (x5_0_2 > (0 : Int))))], [], []⟩) (fun t hm => One.step rfl (.on rfl rfl hm.s1 c_139) (OpT.move rfl (dl rfl rfl) hm.s0 rfl)) (Ct.met_of rfl rfl) ?_
            refine DG.step (c := ⟨some 30, .int .i64 x5_0_2, [(5, .int .i64 x5_0_2), (28, .bool (decide (x5_0_2 > (0 : Int))))], [], []⟩) (fun t hm => One.step rfl (.on rfl rfl hm.s1 c_139) (OpT.move rfl (dl rfl rfl) hm.s0 rfl)) (Ct.met_of rfl rfl) ?_
            refine DG.step (c := ⟨some 31, .int .i64 (IntKind.i64.wrap (x5_0_2 - (1 : Int))), [(30, .int .i64 x5_0_2), (28, .bool (decide (x5_0_2 > (0 : Int))))], [], []⟩) (fun t hm => One.step rfl (.on rfl rfl hm.s1 c_139) (OpT.int2 rfl rfl (dl rfl rfl) hm.s0 rfl rfl)) (Ct.met_of rfl rfl) ?_
            obtain ⟨v_140, e_141, h⟩ := bind_some h
            refine DG.step (c := ⟨some 32, .ref [.int .i64 v_140], [(29, .sl flx0 1 (x0.map (cI .i64))), (31, .int .i64 (IntKind.i64.wrap (x5_0_2 - (1 : Int)))), (28, .bool (decide (x5_0_2 > (0 : Int))))], [], []⟩) (fun t hm => One.step rfl (.on rfl rfl hm.s2 c_139) (OpT.indexSlM (xs := x0) (f := (cI .i64)) (v := v_140) rfl (dl rfl rfl) Try.underlying56 i3 hm.s0 hm.s1 e_141 rfl)) (Ct.met_of rfl rfl) ?_
            refine DG.step (c := ⟨some 33, .int .i64 v_140, [(32, .ref [.int .i64 v_140]), (28, .bool (decide (x5_0_2 > (0 : Int))))], [], []⟩) (fun t hm => One.step rfl (.on rfl rfl hm.s1 c_139) (OpT.loadRef rfl (dl rfl rfl) Try.underlying3 rfl hm.s0 rfl rfl)) (Ct.met_of rfl rfl) ?_
            refine DG.step (c := ⟨some 34, .sl flx0 1 (x0.map (cI .i64)), [(0, .sl flx0 1 (x0.map (cI .i64))), (28, .bool (decide (x5_0_2 > (0 : Int))))], [], []⟩) (fun t hm => One.step rfl (.on rfl rfl hm.s1 c_139) (OpT.move rfl (dl rfl rfl) hm.s0 rfl)) (Ct.met_of rfl rfl) ?_
            refine DG.step (c := ⟨some 35, .int .i64 x5_0_2, [(5, .int .i64 x5_0_2), (28, .bool (decide (x5_0_2 > (0 : Int))))], [], []⟩) (fun t hm => One.step rfl (.on rfl rfl hm.s1 c_139) (OpT.move rfl (dl rfl rfl) hm.s0 rfl)) (Ct.met_of rfl rfl) ?_
            refine DG.step (c := ⟨some 36, .ref [.int .i64 v_135], [(34, .sl flx0 1 (x0.map (cI .i64))), (35, .int .i64 x5_0_2), (28, .bool (decide (x5_0_2 > (0 : Int))))], [], []⟩) (fun t hm => One.step rfl (.on rfl rfl hm.s2 c_139) (OpT.indexSlM (xs := x0) (f := (cI .i64)) (v := v_135) rfl (dl rfl rfl) Try.underlying56 i3 hm.s0 hm.s1 e_136 rfl)) (Ct.met_of rfl rfl) ?_
            refine DG.step (c := ⟨some 37, .int .i64 v_135, [(36, .ref [.int .i64 v_135]), (28, .bool (decide (x5_0_2 > (0 : Int))))], [], []⟩) (fun t hm => One.step rfl (.on rfl rfl hm.s1 c_139) (OpT.loadRef rfl (dl rfl rfl) Try.underlying3 rfl hm.s0 rfl rfl)) (Ct.met_of rfl rfl) ?_
            refine DG.step (c := ⟨some 38, .bool (decide (v_140 ≥ v_135)), [(33, .int .i64 v_140), (37, .int .i64 v_135), (28, .bool (decide (x5_0_2 > (0 : Int))))], [], []⟩) (fun t hm => One.step rfl (.on rfl rfl hm.s2 c_139) (OpT.int2 rfl rfl (dl rfl rfl) hm.s0 hm.s1 rfl)) (Ct.met_of rfl rfl) ?_
            refine DG.step (c := ⟨some 39, .bool (decide (v_140 ≥ v_135)), [(28, .bool (decide (x5_0_2 > (0 : Int)))), (38, .bool (decide (v_140 ≥ v_135))), (25, .bool (decide (v_135 ≥ x1)))], [], []⟩) (fun t hm => One.step rfl (.on rfl rfl hm.s2 c_138) (OpT.pickT rfl (dl rfl rfl) hm.s0 c_139 hm.s1 rfl)) (Ct.met_of rfl rfl) ?_
            refine DG.step (c := ⟨some 40, .bool (decide (v_140 ≥ v_135)), [(25, .bool (decide (v_135 ≥ x1))), (39, .bool (decide (v_140 ≥ v_135)))], [], []⟩) (fun t hm => One.step rfl (.free rfl) (OpT.pickF rfl (dl rfl rfl) hm.s0 c_138 hm.s1 rfl)) (Ct.met_of rfl rfl) ?_
            refine DG.fin (s1 := ⟨[(0, .sl flx0 1 (x0.map (cI .i64))), (1, .int .i64 x1), (5, .int .i64 x5_0_2), (18, .sl flx0 1 (x0.map (cI .i64))), (19, .int .i64 x5_0_2), (20, .ref [.int .i64 v_135]), (21, .int .i64 v_135), (22, .int .i64 x1), (23, .bool (decide (v_135 ≥ x1))), (26, .int .i64 x5_0_2), (27, .bool (decide (x5_0_2 > (0 : Int)))), (28, .bool (decide (x5_0_2 > (0 : Int)))), (29, .sl flx0 1 (x0.map (cI .i64))), (30, .int .i64 x5_0_2), (31, .int .i64 (IntKind.i64.wrap (x5_0_2 - (1 : Int)))), (32, .ref [.int .i64 v_140]), (33, .int .i64 v_140), (34, .sl flx0 1 (x0.map (cI .i64))), (35, .int .i64 x5_0_2), (36, .ref [.int .i64 v_135]), (37, .int .i64 v_135), (38, .bool (decide (v_140 ≥ v_135))), (39, .bool (decide (v_140 ≥ v_135))), (40, .bool (decide (v_140 ≥ v_135)))], []⟩) (ms := [0, 0, 3, 7, 15, 31, 63, 63, 255, 511, 63, 2047, 4095, 8191, 16383, 32767, 65535, 131071, 131071, 393215, 1048575, 2097151, 131071, 131071, 12713983, 29491199, 67108863, 134217727, 268435455]) TryMixed rfl (by kernel_rfl) (by kernel_rfl) (by kernel_rfl) (.cons rfl (.cons rfl (.cons rfl (.cons rfl (.cons rfl (.cons rfl (.cons rfl (.cons rfl (.cons rfl (.cons rfl (.cons rfl (.cons rfl (.cons rfl (.cons rfl (.cons rfl (.cons rfl (.cons rfl (.cons rfl (.cons rfl (.cons rfl (.cons rfl (.cons rfl (.cons rfl (.cons rfl (.nil _))))))))))))))))))))))))) rfl (fun u hu => (thenS_normal (T.by_turn hu ?_)))
            rcases bif_some h with ⟨c_142, h⟩ | ⟨c_142, h⟩
            · refine T.condT rfl c_142 ?_
              refine T.by_turn ?_ (raddleref09_rises_j1_T K h)
              exact Turn.rp (.nil _) (.n _)
            · refine T.condF rfl c_142 ?_
              refine T.skip (inBlock_normal (thenS_normal ?_))
              refine T.regionL ?_
              refine mv rfl rfl rfl rfl rfl ?_
              refine sp rfl (OpT.int2 rfl rfl (dl rfl rfl) rfl rfl ?_)
              refine asg rfl rfl rfl rfl rfl ?_
              refine TL'.nil (thenS_normal ?_)
              refine TL.by_turn ?_ (ih x0 x1 (IntKind.i64.wrap (x5_0_2 + (1 : Int))) flx0 h)
              exact Turn.rp (.cons rfl (.cons rfl (.cons rfl (.nil _)))) (.n _)
          · refine DG.off c_139 rfl rfl rfl rfl rfl rfl ?_
            refine DG.off c_139 rfl rfl rfl rfl rfl rfl ?_
            refine DG.off c_139 rfl rfl rfl rfl rfl rfl ?_
            refine DG.off c_139 rfl rfl rfl rfl rfl rfl ?_
            refine DG.off c_139 rfl rfl rfl rfl rfl rfl ?_
            refine DG.off c_139 rfl rfl rfl rfl rfl rfl ?_
            refine DG.off c_139 rfl rfl rfl rfl rfl rfl ?_
            refine DG.off c_139 rfl rfl rfl rfl rfl rfl ?_
            refine DG.off c_139 rfl rfl rfl rfl rfl rfl ?_
            refine DG.off c_139 rfl rfl rfl rfl rfl rfl ?_
            refine DG.step (c := ⟨some 39, .bool false, [(28, .bool (decide (x5_0_2 > (0 : Int)))), (25, .bool (decide (v_135 ≥ x1)))], [], []⟩) (fun t hm => One.step rfl (.on rfl rfl hm.s1 c_138) (OpT.pickF rfl (dl rfl rfl) hm.s0 c_139 rfl rfl)) (Ct.met_of rfl rfl) ?_
            refine DG.step (c := ⟨some 40, .bool false, [(25, .bool (decide (v_135 ≥ x1))), (39, .bool false)], [], []⟩) (fun t hm => One.step rfl (.free rfl) (OpT.pickF rfl (dl rfl rfl) hm.s0 c_138 hm.s1 rfl)) (Ct.met_of rfl rfl) ?_
            refine DG.fin (s1 := ⟨[(0, .sl flx0 1 (x0.map (cI .i64))), (1, .int .i64 x1), (5, .int .i64 x5_0_2), (18, .sl flx0 1 (x0.map (cI .i64))), (19, .int .i64 x5_0_2), (20, .ref [.int .i64 v_135]), (21, .int .i64 v_135), (22, .int .i64 x1), (23, .bool (decide (v_135 ≥ x1))), (26, .int .i64 x5_0_2), (27, .bool (decide (x5_0_2 > (0 : Int)))), (28, .bool (decide (x5_0_2 > (0 : Int)))), (29, .tup []), (30, .tup []), (31, .tup []), (32, .tup []), (33, .tup []), (34, .tup []), (35, .tup []), (36, .tup []), (37, .tup []), (38, .tup []), (39, .bool false), (40, .bool false)], []⟩) (ms := [0, 0, 3, 7, 15, 31, 63, 63, 255, 511, 63, 2047, 4095, 8191, 16383, 32767, 65535, 131071, 131071, 393215, 1048575, 2097151, 131071, 131071, 12713983, 29491199, 67108863, 134217727, 268435455]) TryMixed rfl (by kernel_rfl) (by kernel_rfl) (by kernel_rfl) (.cons rfl (.cons rfl (.cons rfl (.cons rfl (.cons rfl (.cons rfl (.cons rfl (.cons rfl (.cons rfl (.cons rfl (.cons rfl (.cons rfl (.cons rfl (.cons rfl (.cons rfl (.cons rfl (.cons rfl (.cons rfl (.cons rfl (.cons rfl (.cons rfl (.cons rfl (.cons rfl (.cons rfl (.nil _))))))))))))))))))))))))) rfl (fun u hu => (thenS_normal (T.by_turn hu ?_)))
            refine T.condF rfl rfl ?_
            refine T.skip (inBlock_normal (thenS_normal ?_))
            refine T.regionL ?_
            refine mv rfl rfl rfl rfl rfl ?_
            refine sp rfl (OpT.int2 rfl rfl (dl rfl rfl) rfl rfl ?_)
            refine asg rfl rfl rfl rfl rfl ?_
            refine TL'.nil (thenS_normal ?_)
            refine TL.by_turn ?_ (ih x0 x1 (IntKind.i64.wrap (x5_0_2 + (1 : Int))) flx0 h)
            exact Turn.rp (.cons rfl (.cons rfl (.cons rfl (.nil _)))) (.n _)
    · refine T.condF rfl c_126 ?_
      refine T.exit (thenS_exit (thenS_exit (inBlock_exit (thenS_normal ?_))))
      refine T.seq ?_
      refine T.regionL ?_
      refine asg rfl rfl rfl rfl rfl ?_
      refine TL'.nil (thenS_normal ?_)
      refine T.ret ?_
      exact Fin.done (.cons _ _ _ _ (.tmp 4 _ rfl) .nil) (by cases h; exact ⟨rfl, rfl⟩)

theorem raddleref09_rises_T (K : Nat) {x0 : List Int} {x1 : Int} {flx0 : Bool} {r : Bool} (h : raddleref09_rises K x0 x1 = some r) : CallR Try.prog 68 [.sl flx0 1 (x0.map (cI .i64)), .int .i64 x1] [] (.bool r) := by
  refine CallT.intro Try.func68 rfl (Nat.le_of_ble_eq_true rfl) ?_
  show T Try.prog 41 (Code.at [] (codeOf Try.f68)) ⟨paramSlots 0 [.sl flx0 1 (x0.map (cI .i64)), .int .i64 x1], []⟩ (raddleref09_rises_q r)
  unfold raddleref09_rises at h
  refine T.seq ?_
  refine T.regionL ?_
  refine asg rfl rfl rfl rfl rfl ?_
  refine TL'.nil (thenS_normal ?_)
  refine T.seq ?_
  refine T.seq ?_
  refine T.regionL ?_
  refine asg rfl rfl rfl rfl rfl ?_
  refine TL'.nil (thenS_normal ?_)
  refine T.block ?_
  refine T.loop ?_
  refine TL.by_turn ?_ (raddleref09_rises_l0_T K K x0 x1 (0 : Int) flx0 h)
  exact Turn.rp (.cons rfl (.cons rfl (.cons rfl (.nil _)))) (.n _)

abbrev raddleref09_Right_q (r : Bool) : Exit → St → Prop := retS Try.prog Try.f48 (fun y t => y = (.bool r) ∧ t = [])

abbrev raddleref09_Right_qs11 (r : Bool) : Exit → St → Prop := thenS (fun s' => T Try.prog 70 (Code.at [1, 1] (codeOf Try.f48)) s' ((raddleref09_Right_q r))) ((raddleref09_Right_q r))

abbrev raddleref09_Right_qs111 (r : Bool) : Exit → St → Prop := thenS (fun s' => T Try.prog 70 (Code.at [1, 1, 1] (codeOf Try.f48)) s' ((raddleref09_Right_q r))) ((raddleref09_Right_q r))

abbrev raddleref09_Right_qb0x111 (r : Bool) : Exit → St → Prop := inBlockS 0 ((raddleref09_Right_qs111 r))

abbrev raddleref09_Right_ql11010 (r : Bool) : Exit → St → Prop := thenS (fun s' => TL Try.prog 70 (Code.at [1, 1, 0, 1, 0, 0] (codeOf Try.f48)) s' ((raddleref09_Right_qb0x111 r))) ((raddleref09_Right_qb0x111 r))

abbrev raddleref09_Right_qs11010011 (r : Bool) : Exit → St → Prop := thenS (fun s' => T Try.prog 70 (Code.at [1, 1, 0, 1, 0, 0, 1, 1] (codeOf Try.f48)) s' ((raddleref09_Right_ql11010 r))) ((raddleref09_Right_ql11010 r))

abbrev raddleref09_Right_qb1_0x11010011 (r : Bool) : Exit → St → Prop := inBlockS 1 ((raddleref09_Right_qs11010011 r))

theorem raddleref09_Right_j0_T {r : Bool} (K : Nat) (h : raddleref09_Right_j0 K = some r) : T Try.prog 70 (Code.at [1, 0, 1, 0] (codeOf Try.f48)) ⟨[], []⟩ (raddleref09_Right_qs11 r) := by
  unfold raddleref09_Right_j0 at h
  refine T.seq ?_
  refine T.regionL ?_
  refine asg rfl rfl rfl rfl rfl ?_
  refine TL'.nil (thenS_normal ?_)
  refine T.ret (thenS_ret ?_)
  exact Fin.done (.cons _ _ _ _ (.tmp 2 _ rfl) .nil) (by cases h; exact ⟨rfl, rfl⟩)

theorem raddleref09_Right_j2_T {r : Bool} (K : Nat) (h : raddleref09_Right_j2 K = some r) : T Try.prog 70 (Code.at [1, 1, 0, 1, 0, 0, 1, 0, 0, 1, 1, 0] (codeOf Try.f48)) ⟨[], []⟩ (raddleref09_Right_qb1_0x11010011 r) := by
  unfold raddleref09_Right_j2 at h
  refine T.seq ?_
  refine T.regionL ?_
  refine asg rfl rfl rfl rfl rfl ?_
  refine TL'.nil (thenS_normal ?_)
  refine T.ret (inBlock_ret (thenS_ret (thenS_ret (inBlock_ret (thenS_ret ?_)))))
  exact Fin.done (.cons _ _ _ _ (.tmp 2 _ rfl) .nil) (by cases h; exact ⟨rfl, rfl⟩)

theorem raddleref09_Right_l1_T {r : Bool} (K : Nat) : ∀ (k : Nat), ∀ (x3_1_2 : Int) (x0 : api_Glush) (b1_1 : Nat), raddleref09_Right_l1 K k x3_1_2 x0 = some r → TL Try.prog 70 (Code.at [1, 1, 0, 1, 0, 0] (codeOf Try.f48)) ⟨[(1, .ptr b1_1 0), (3, .int .i64 x3_1_2)], [.box b1_1 71 [.d (.sl false 1 (x0.First.map (cI .i64))), .d (.sl false 9 (x0.P.map c_api_Pos))]]⟩ (raddleref09_Right_qb0x111 r) := by
  intro k
  induction k with
  | zero =>
    intro x3_1_2 x0 b1_1 h
    cases (show (none : Option Bool) = some r from h)
  | succ k ih =>
    intro x3_1_2 x0 b1_1 h
    rw [raddleref09_Right_l1] at h
    refine TL.round ?_
    refine T.seq ?_
    refine T.seq ?_
    refine T.regionL ?_
    refine mv rfl rfl rfl rfl rfl ?_
    refine sp rfl (OpT.fieldPtr rfl (dl rfl rfl) Try.underlying71 rfl i69 (by decide) rfl ?_)
    refine sp rfl (OpT.loadBox (i := 0) rfl (dl rfl rfl) Try.underlying69 rfl rfl rfl rfl ?_)
    refine sp rfl (OpT.lenSlM (xs := x0.P) (f := c_api_Pos) rfl (dl rfl rfl) Try.underlying69 rfl ?_)
    refine sp rfl (OpT.int2 rfl rfl (dl rfl rfl) rfl rfl ?_)
    refine TL'.nil (thenS_normal ?_)
    rcases bif_some h with ⟨c_168, h⟩ | ⟨c_168, h⟩
    · refine T.condT rfl c_168 ?_
      refine T.skip (thenS_normal ?_)
      refine T.seq ?_
      refine T.block ?_
      refine T.seq ?_
      refine T.regionL ?_
      refine sp rfl (OpT.fieldPtr rfl (dl rfl rfl) Try.underlying71 rfl i69 (by decide) rfl ?_)
      refine sp rfl (OpT.loadBox (i := 0) rfl (dl rfl rfl) Try.underlying69 rfl rfl rfl rfl ?_)
      refine mv rfl rfl rfl rfl rfl ?_
      obtain ⟨v_169, e_170, h⟩ := bind_some h
      refine sp rfl (OpT.indexSlM (xs := x0.P) (f := c_api_Pos) (v := v_169) rfl (dl rfl rfl) Try.underlying69 i104 rfl rfl e_170 ?_)
      refine sp rfl (OpT.loadRefAgg rfl (dl rfl rfl) Try.underlying104 rfl i104 rfl (Nat.le_of_ble_eq_true rfl) ?_)
      refine sp rfl (OpT.alloc' rfl (dl rfl rfl) i104 rfl (fun b_171 => ?_))
      refine sp rfl (OpT.storeAggTo (i := 0) (cells' := [.d (.int .u64 v_169.S.a0), .d (.int .u64 v_169.S.a1), .d (.int .u64 v_169.S.a2), .d (.int .u64 v_169.S.a3), .d (.int .i64 v_169.Lo), .d (.int .i64 v_169.Hi), .d (.int .i64 v_169.Rule), .d (.bool v_169.Last), .d (.sl false 1 (v_169.Next.map (cI .i64)))]) rfl rfl i104 rfl rfl rfl rfl (Nat.le_of_ble_eq_true rfl) rfl ?_)
      refine TL'.nil (thenS_normal ?_)
      refine T.seq ?_
      refine T.regionL ?_
      refine sp rfl (OpT.fieldPtr rfl (dl rfl rfl) Try.underlying104 rfl i102 (by decide) rfl ?_)
      refine sp rfl (OpT.loadBoxAgg (i := 0) (l := (Arr4.dc .u64 v_169.S)) rfl (dl rfl rfl) Try.underlying102 rfl i102 rfl rfl rfl rfl ?_)
      refine sp rfl (OpT.build (l := (Arr4.dc .u64 (Arr4.mk 0 0 0 0))) rfl (dl rfl rfl) (built_arr Try.underlying102 i102 i100) (all1 rfl) rfl rfl ?_)
      refine sp rfl (OpT.intsEql (k := .u64) (xs := [v_169.S.a0, v_169.S.a1, v_169.S.a2, v_169.S.a3]) (ys := [(Arr4.mk 0 0 0 0).a0, (Arr4.mk 0 0 0 0).a1, (Arr4.mk 0 0 0 0).a2, (Arr4.mk 0 0 0 0).a3]) rfl (dl rfl rfl) Try.underlying102 Try.underlying100 i100 Try.eqGuardType102 rfl rfl rfl rfl rfl rfl (Arr4.same_eq v_169.S (Arr4.mk 0 0 0 0)) ?_)
      refine mv rfl rfl rfl rfl rfl ?_
      rcases bif_some h with ⟨c_172, h⟩ | ⟨c_172, h⟩
      · refine TL'.passU (.off _ _ _ _ rfl rfl rfl c_172) (dl rfl rfl) ?_
        refine TL'.passU (.off _ _ _ _ rfl rfl rfl c_172) (dl rfl rfl) ?_
        refine TL'.passU (.off _ _ _ _ rfl rfl rfl c_172) (dl rfl rfl) ?_
        refine sp rfl (OpT.pickT rfl (dl rfl rfl) rfl c_172 rfl ?_)
        refine mv rfl rfl rfl rfl rfl ?_
        refine TL'.passU (.off _ _ _ _ rfl rfl rfl rfl) (dl rfl rfl) ?_
        refine TL'.passU (.off _ _ _ _ rfl rfl rfl rfl) (dl rfl rfl) ?_
        refine TL'.passU (.off _ _ _ _ rfl rfl rfl rfl) (dl rfl rfl) ?_
        refine TL'.passU (.off _ _ _ _ rfl rfl rfl rfl) (dl rfl rfl) ?_
        refine TL'.passU (.off _ _ _ _ rfl rfl rfl rfl) (dl rfl rfl) ?_
        refine sp rfl (OpT.pickT rfl (dl rfl rfl) rfl rfl rfl ?_)
        refine mv rfl rfl rfl rfl rfl ?_
        refine TL'.passU (.off _ _ _ _ rfl rfl rfl rfl) (dl rfl rfl) ?_
        refine TL'.passU (.off _ _ _ _ rfl rfl rfl rfl) (dl rfl rfl) ?_
        refine TL'.passU (.off _ _ _ _ rfl rfl rfl rfl) (dl rfl rfl) ?_
        refine sp rfl (OpT.pickT rfl (dl rfl rfl) rfl rfl rfl ?_)
        refine mv rfl rfl rfl rfl rfl ?_
        refine TL'.passU (.off _ _ _ _ rfl rfl rfl rfl) (dl rfl rfl) ?_
        refine TL'.passU (.off _ _ _ _ rfl rfl rfl rfl) (dl rfl rfl) ?_
        refine TL'.passU (.off _ _ _ _ rfl rfl rfl rfl) (dl rfl rfl) ?_
        refine sp rfl (OpT.pickT rfl (dl rfl rfl) rfl rfl rfl ?_)
        refine mv rfl rfl rfl rfl rfl ?_
        refine TL'.passU (.off _ _ _ _ rfl rfl rfl rfl) (dl rfl rfl) ?_
        refine TL'.passU (.off _ _ _ _ rfl rfl rfl rfl) (dl rfl rfl) ?_
        refine TL'.passU (.off _ _ _ _ rfl rfl rfl rfl) (dl rfl rfl) ?_
        refine sp rfl (OpT.pickT rfl (dl rfl rfl) rfl rfl rfl ?_)
        refine mv rfl rfl rfl rfl rfl ?_
        refine TL'.passU (.off _ _ _ _ rfl rfl rfl rfl) (dl rfl rfl) ?_
        refine TL'.passU (.off _ _ _ _ rfl rfl rfl rfl) (dl rfl rfl) ?_
        refine TL'.passU (.off _ _ _ _ rfl rfl rfl rfl) (dl rfl rfl) ?_
        refine TL'.passU (.off _ _ _ _ rfl rfl rfl rfl) (dl rfl rfl) ?_
        refine TL'.passU (.off _ _ _ _ rfl rfl rfl rfl) (dl rfl rfl) ?_
        refine TL'.passU (.off _ _ _ _ rfl rfl rfl rfl) (dl rfl rfl) ?_
        refine TL'.passU (.off _ _ _ _ rfl rfl rfl rfl) (dl rfl rfl) ?_
        refine sp rfl (OpT.pickT rfl (dl rfl rfl) rfl rfl rfl ?_)
        refine TL'.nil (thenS_normal ?_)
        refine T.condT rfl rfl ?_
        refine T.by_turn ?_ (raddleref09_Right_j2_T K h)
        exact Turn.rp (.nil _) (.n _)
      · refine TL'.step (.on rfl rfl rfl c_172) (OpT.fieldPtr rfl (dl rfl rfl) Try.underlying104 rfl i3 (by decide) rfl ?_)
        refine TL'.step (.on rfl rfl rfl c_172) (OpT.loadBox (i := 0) rfl (dl rfl rfl) Try.underlying3 rfl rfl rfl rfl ?_)
        refine TL'.step (.on rfl rfl rfl c_172) (OpT.int2 rfl rfl (dl rfl rfl) rfl rfl ?_)
        refine sp rfl (OpT.pickF rfl (dl rfl rfl) rfl c_172 rfl ?_)
        refine mv rfl rfl rfl rfl rfl ?_
        rcases bif_some h with ⟨c_173, h⟩ | ⟨c_173, h⟩
        · refine TL'.passU (.off _ _ _ _ rfl rfl rfl c_173) (dl rfl rfl) ?_
          refine TL'.passU (.off _ _ _ _ rfl rfl rfl c_173) (dl rfl rfl) ?_
          refine TL'.passU (.off _ _ _ _ rfl rfl rfl c_173) (dl rfl rfl) ?_
          refine TL'.passU (.off _ _ _ _ rfl rfl rfl c_173) (dl rfl rfl) ?_
          refine TL'.passU (.off _ _ _ _ rfl rfl rfl c_173) (dl rfl rfl) ?_
          refine sp rfl (OpT.pickT rfl (dl rfl rfl) rfl c_173 rfl ?_)
          refine mv rfl rfl rfl rfl rfl ?_
          refine TL'.passU (.off _ _ _ _ rfl rfl rfl rfl) (dl rfl rfl) ?_
          refine TL'.passU (.off _ _ _ _ rfl rfl rfl rfl) (dl rfl rfl) ?_
          refine TL'.passU (.off _ _ _ _ rfl rfl rfl rfl) (dl rfl rfl) ?_
          refine sp rfl (OpT.pickT rfl (dl rfl rfl) rfl rfl rfl ?_)
          refine mv rfl rfl rfl rfl rfl ?_
          refine TL'.passU (.off _ _ _ _ rfl rfl rfl rfl) (dl rfl rfl) ?_
          refine TL'.passU (.off _ _ _ _ rfl rfl rfl rfl) (dl rfl rfl) ?_
          refine TL'.passU (.off _ _ _ _ rfl rfl rfl rfl) (dl rfl rfl) ?_
          refine sp rfl (OpT.pickT rfl (dl rfl rfl) rfl rfl rfl ?_)
          refine mv rfl rfl rfl rfl rfl ?_
          refine TL'.passU (.off _ _ _ _ rfl rfl rfl rfl) (dl rfl rfl) ?_
          refine TL'.passU (.off _ _ _ _ rfl rfl rfl rfl) (dl rfl rfl) ?_
          refine TL'.passU (.off _ _ _ _ rfl rfl rfl rfl) (dl rfl rfl) ?_
          refine sp rfl (OpT.pickT rfl (dl rfl rfl) rfl rfl rfl ?_)
          refine mv rfl rfl rfl rfl rfl ?_
          refine TL'.passU (.off _ _ _ _ rfl rfl rfl rfl) (dl rfl rfl) ?_
          refine TL'.passU (.off _ _ _ _ rfl rfl rfl rfl) (dl rfl rfl) ?_
          refine TL'.passU (.off _ _ _ _ rfl rfl rfl rfl) (dl rfl rfl) ?_
          refine TL'.passU (.off _ _ _ _ rfl rfl rfl rfl) (dl rfl rfl) ?_
          refine TL'.passU (.off _ _ _ _ rfl rfl rfl rfl) (dl rfl rfl) ?_
          refine TL'.passU (.off _ _ _ _ rfl rfl rfl rfl) (dl rfl rfl) ?_
          refine TL'.passU (.off _ _ _ _ rfl rfl rfl rfl) (dl rfl rfl) ?_
          refine sp rfl (OpT.pickT rfl (dl rfl rfl) rfl rfl rfl ?_)
          refine TL'.nil (thenS_normal ?_)
          refine T.condT rfl rfl ?_
          refine T.by_turn ?_ (raddleref09_Right_j2_T K h)
          exact Turn.rp (.nil _) (.n _)
        · refine TL'.step (.on rfl rfl rfl c_173) (OpT.fieldPtr rfl (dl rfl rfl) Try.underlying104 rfl i3 (by decide) rfl ?_)
          refine TL'.step (.on rfl rfl rfl c_173) (OpT.loadBox (i := 0) rfl (dl rfl rfl) Try.underlying3 rfl rfl rfl rfl ?_)
          refine TL'.step (.on rfl rfl rfl c_173) (OpT.fieldPtr rfl (dl rfl rfl) Try.underlying104 rfl i3 (by decide) rfl ?_)
          refine TL'.step (.on rfl rfl rfl c_173) (OpT.loadBox (i := 0) rfl (dl rfl rfl) Try.underlying3 rfl rfl rfl rfl ?_)
          refine TL'.step (.on rfl rfl rfl c_173) (OpT.int2 rfl rfl (dl rfl rfl) rfl rfl ?_)
          refine sp rfl (OpT.pickF rfl (dl rfl rfl) rfl c_173 rfl ?_)
          refine mv rfl rfl rfl rfl rfl ?_
          rcases bif_some h with ⟨c_174, h⟩ | ⟨c_174, h⟩
          · refine TL'.passU (.off _ _ _ _ rfl rfl rfl c_174) (dl rfl rfl) ?_
            refine TL'.passU (.off _ _ _ _ rfl rfl rfl c_174) (dl rfl rfl) ?_
            refine TL'.passU (.off _ _ _ _ rfl rfl rfl c_174) (dl rfl rfl) ?_
            refine sp rfl (OpT.pickT rfl (dl rfl rfl) rfl c_174 rfl ?_)
            refine mv rfl rfl rfl rfl rfl ?_
            refine TL'.passU (.off _ _ _ _ rfl rfl rfl rfl) (dl rfl rfl) ?_
            refine TL'.passU (.off _ _ _ _ rfl rfl rfl rfl) (dl rfl rfl) ?_
            refine TL'.passU (.off _ _ _ _ rfl rfl rfl rfl) (dl rfl rfl) ?_
            refine sp rfl (OpT.pickT rfl (dl rfl rfl) rfl rfl rfl ?_)
            refine mv rfl rfl rfl rfl rfl ?_
            refine TL'.passU (.off _ _ _ _ rfl rfl rfl rfl) (dl rfl rfl) ?_
            refine TL'.passU (.off _ _ _ _ rfl rfl rfl rfl) (dl rfl rfl) ?_
            refine TL'.passU (.off _ _ _ _ rfl rfl rfl rfl) (dl rfl rfl) ?_
            refine sp rfl (OpT.pickT rfl (dl rfl rfl) rfl rfl rfl ?_)
            refine mv rfl rfl rfl rfl rfl ?_
            refine TL'.passU (.off _ _ _ _ rfl rfl rfl rfl) (dl rfl rfl) ?_
            refine TL'.passU (.off _ _ _ _ rfl rfl rfl rfl) (dl rfl rfl) ?_
            refine TL'.passU (.off _ _ _ _ rfl rfl rfl rfl) (dl rfl rfl) ?_
            refine TL'.passU (.off _ _ _ _ rfl rfl rfl rfl) (dl rfl rfl) ?_
            refine TL'.passU (.off _ _ _ _ rfl rfl rfl rfl) (dl rfl rfl) ?_
            refine TL'.passU (.off _ _ _ _ rfl rfl rfl rfl) (dl rfl rfl) ?_
            refine TL'.passU (.off _ _ _ _ rfl rfl rfl rfl) (dl rfl rfl) ?_
            refine sp rfl (OpT.pickT rfl (dl rfl rfl) rfl rfl rfl ?_)
            refine TL'.nil (thenS_normal ?_)
            refine T.condT rfl rfl ?_
            refine T.by_turn ?_ (raddleref09_Right_j2_T K h)
            exact Turn.rp (.nil _) (.n _)
          · refine TL'.step (.on rfl rfl rfl c_174) (OpT.fieldPtr rfl (dl rfl rfl) Try.underlying104 rfl i3 (by decide) rfl ?_)
            refine TL'.step (.on rfl rfl rfl c_174) (OpT.loadBox (i := 0) rfl (dl rfl rfl) Try.underlying3 rfl rfl rfl rfl ?_)
            refine TL'.step (.on rfl rfl rfl c_174) (OpT.int2 rfl rfl (dl rfl rfl) rfl rfl ?_)
            refine sp rfl (OpT.pickF rfl (dl rfl rfl) rfl c_174 rfl ?_)
            refine mv rfl rfl rfl rfl rfl ?_
            rcases bif_some h with ⟨c_175, h⟩ | ⟨c_175, h⟩
            · refine TL'.passU (.off _ _ _ _ rfl rfl rfl c_175) (dl rfl rfl) ?_
              refine TL'.passU (.off _ _ _ _ rfl rfl rfl c_175) (dl rfl rfl) ?_
              refine TL'.passU (.off _ _ _ _ rfl rfl rfl c_175) (dl rfl rfl) ?_
              refine sp rfl (OpT.pickT rfl (dl rfl rfl) rfl c_175 rfl ?_)
              refine mv rfl rfl rfl rfl rfl ?_
              refine TL'.passU (.off _ _ _ _ rfl rfl rfl rfl) (dl rfl rfl) ?_
              refine TL'.passU (.off _ _ _ _ rfl rfl rfl rfl) (dl rfl rfl) ?_
              refine TL'.passU (.off _ _ _ _ rfl rfl rfl rfl) (dl rfl rfl) ?_
              refine sp rfl (OpT.pickT rfl (dl rfl rfl) rfl rfl rfl ?_)
              refine mv rfl rfl rfl rfl rfl ?_
              refine TL'.passU (.off _ _ _ _ rfl rfl rfl rfl) (dl rfl rfl) ?_
              refine TL'.passU (.off _ _ _ _ rfl rfl rfl rfl) (dl rfl rfl) ?_
              refine TL'.passU (.off _ _ _ _ rfl rfl rfl rfl) (dl rfl rfl) ?_
              refine TL'.passU (.off _ _ _ _ rfl rfl rfl rfl) (dl rfl rfl) ?_
              refine TL'.passU (.off _ _ _ _ rfl rfl rfl rfl) (dl rfl rfl) ?_
              refine TL'.passU (.off _ _ _ _ rfl rfl rfl rfl) (dl rfl rfl) ?_
              refine TL'.passU (.off _ _ _ _ rfl rfl rfl rfl) (dl rfl rfl) ?_
              refine sp rfl (OpT.pickT rfl (dl rfl rfl) rfl rfl rfl ?_)
              refine TL'.nil (thenS_normal ?_)
              refine T.condT rfl rfl ?_
              refine T.by_turn ?_ (raddleref09_Right_j2_T K h)
              exact Turn.rp (.nil _) (.n _)
            · refine TL'.step (.on rfl rfl rfl c_175) (OpT.fieldPtr rfl (dl rfl rfl) Try.underlying104 rfl i3 (by decide) rfl ?_)
              refine TL'.step (.on rfl rfl rfl c_175) (OpT.loadBox (i := 0) rfl (dl rfl rfl) Try.underlying3 rfl rfl rfl rfl ?_)
              refine TL'.step (.on rfl rfl rfl c_175) (OpT.int2 rfl rfl (dl rfl rfl) rfl rfl ?_)
              refine sp rfl (OpT.pickF rfl (dl rfl rfl) rfl c_175 rfl ?_)
              refine mv rfl rfl rfl rfl rfl ?_
              rcases bif_some h with ⟨c_176, h⟩ | ⟨c_176, h⟩
              · refine TL'.passU (.off _ _ _ _ rfl rfl rfl c_176) (dl rfl rfl) ?_
                refine TL'.passU (.off _ _ _ _ rfl rfl rfl c_176) (dl rfl rfl) ?_
                refine TL'.passU (.off _ _ _ _ rfl rfl rfl c_176) (dl rfl rfl) ?_
                refine sp rfl (OpT.pickT rfl (dl rfl rfl) rfl c_176 rfl ?_)
                refine mv rfl rfl rfl rfl rfl ?_
                refine TL'.passU (.off _ _ _ _ rfl rfl rfl rfl) (dl rfl rfl) ?_
                refine TL'.passU (.off _ _ _ _ rfl rfl rfl rfl) (dl rfl rfl) ?_
                refine TL'.passU (.off _ _ _ _ rfl rfl rfl rfl) (dl rfl rfl) ?_
                refine TL'.passU (.off _ _ _ _ rfl rfl rfl rfl) (dl rfl rfl) ?_
                refine TL'.passU (.off _ _ _ _ rfl rfl rfl rfl) (dl rfl rfl) ?_
                refine TL'.passU (.off _ _ _ _ rfl rfl rfl rfl) (dl rfl rfl) ?_
                refine TL'.passU (.off _ _ _ _ rfl rfl rfl rfl) (dl rfl rfl) ?_
                refine sp rfl (OpT.pickT rfl (dl rfl rfl) rfl rfl rfl ?_)
                refine TL'.nil (thenS_normal ?_)
                refine T.condT rfl rfl ?_
                refine T.by_turn ?_ (raddleref09_Right_j2_T K h)
                exact Turn.rp (.nil _) (.n _)
              · refine TL'.step (.on rfl rfl rfl c_176) (OpT.fieldPtr rfl (dl rfl rfl) Try.underlying104 rfl i3 (by decide) rfl ?_)
                refine TL'.step (.on rfl rfl rfl c_176) (OpT.loadBox (i := 0) rfl (dl rfl rfl) Try.underlying3 rfl rfl rfl rfl ?_)
                refine TL'.step (.on rfl rfl rfl c_176) (OpT.int2 rfl rfl (dl rfl rfl) rfl rfl ?_)
                refine sp rfl (OpT.pickF rfl (dl rfl rfl) rfl c_176 rfl ?_)
                refine mv rfl rfl rfl rfl rfl ?_
                rcases bif_some h with ⟨c_177, h⟩ | ⟨c_177, h⟩
                · refine TL'.passU (.off _ _ _ _ rfl rfl rfl c_177) (dl rfl rfl) ?_
                  refine TL'.passU (.off _ _ _ _ rfl rfl rfl c_177) (dl rfl rfl) ?_
                  refine TL'.passU (.off _ _ _ _ rfl rfl rfl c_177) (dl rfl rfl) ?_
                  refine TL'.passU (.off _ _ _ _ rfl rfl rfl c_177) (dl rfl rfl) ?_
                  refine TL'.passU (.off _ _ _ _ rfl rfl rfl c_177) (dl rfl rfl) ?_
                  refine TL'.passU (.off _ _ _ _ rfl rfl rfl c_177) (dl rfl rfl) ?_
                  refine TL'.passU (.off _ _ _ _ rfl rfl rfl c_177) (dl rfl rfl) ?_
                  refine sp rfl (OpT.pickT rfl (dl rfl rfl) rfl c_177 rfl ?_)
                  refine TL'.nil (thenS_normal ?_)
                  refine T.condT rfl rfl ?_
                  refine T.by_turn ?_ (raddleref09_Right_j2_T K h)
                  exact Turn.rp (.nil _) (.n _)
                · refine TL'.step (.on rfl rfl rfl c_177) (OpT.fieldPtr rfl (dl rfl rfl) Try.underlying104 rfl i56 (by decide) rfl ?_)
                  refine TL'.step (.on rfl rfl rfl c_177) (OpT.loadBox (i := 0) rfl (dl rfl rfl) Try.underlying56 rfl rfl rfl rfl ?_)
                  refine TL'.step (.on rfl rfl rfl c_177) (OpT.fieldPtr rfl (dl rfl rfl) Try.underlying71 rfl i69 (by decide) rfl ?_)
                  refine TL'.step (.on rfl rfl rfl c_177) (OpT.loadBox (i := 1) rfl (dl rfl rfl) Try.underlying69 rfl rfl rfl rfl ?_)
                  refine TL'.step (.on rfl rfl rfl c_177) (OpT.lenSlM (xs := x0.P) (f := c_api_Pos) rfl (dl rfl rfl) Try.underlying69 rfl ?_)
                  obtain ⟨v_178, e_179, h⟩ := bind_some h
                  refine TL'.step (.on rfl rfl rfl c_177) (OpT.callPA rfl (dl rfl rfl) Try.func68 rfl rfl (Args.cons rfl (Args.cons rfl Args.nil)) (CallR.nil (raddleref09_rises_T K (flx0 := false) e_179)) ?_)
                  refine TL'.step (.on rfl rfl rfl c_177) (OpT.not rfl (dl rfl rfl) rfl ?_)
                  refine sp rfl (OpT.pickF rfl (dl rfl rfl) rfl c_177 rfl ?_)
                  refine TL'.nil (thenS_normal ?_)
                  rcases bif_some h with ⟨c_180, h⟩ | ⟨c_180, h⟩
                  · refine T.condT rfl c_180 ?_
                    refine T.by_turn ?_ (raddleref09_Right_j2_T K h)
                    exact Turn.rp (.nil _) (.n _)
                  · refine T.condF rfl c_180 ?_
                    refine T.skip (inBlock_normal (thenS_normal ?_))
                    refine T.regionL ?_
                    refine mv rfl rfl rfl rfl rfl ?_
                    refine sp rfl (OpT.int2 rfl rfl (dl rfl rfl) rfl rfl ?_)
                    refine asg rfl rfl rfl rfl rfl ?_
                    refine TL'.nil (thenS_normal ?_)
                    refine TL.by_turn ?_ (ih (IntKind.i64.wrap (x3_1_2 + (1 : Int))) x0 b1_1 h)
                    exact Turn.rp (.cons rfl (.cons rfl (.nil _))) (.c (.s .z) (.n _))
    · refine T.condF rfl c_168 ?_
      refine T.exit (thenS_exit (thenS_exit (inBlock_exit (thenS_normal ?_))))
      refine T.seq ?_
      refine T.regionL ?_
      refine asg rfl rfl rfl rfl rfl ?_
      refine TL'.nil (thenS_normal ?_)
      refine T.ret ?_
      exact Fin.done (.cons _ _ _ _ (.tmp 2 _ rfl) .nil) (by cases h; exact ⟨rfl, rfl⟩)

theorem raddleref09_Right_T (K : Nat) {x0 : api_Glush} {r : Bool} (h : raddleref09_Right K x0 = some r) : CallR Try.prog 48 [.agg [.sl false 1 (x0.First.map (cI .i64)), .sl false 9 (x0.P.map c_api_Pos)]] [] (.bool r) := by
  refine CallT.intro Try.func48 rfl (Nat.le_of_ble_eq_true rfl) ?_
  show T Try.prog 70 (Code.at [] (codeOf Try.f48)) ⟨paramSlots 0 [.agg [.sl false 1 (x0.First.map (cI .i64)), .sl false 9 (x0.P.map c_api_Pos)]], []⟩ (raddleref09_Right_q r)
  unfold raddleref09_Right at h
  refine T.seq ?_
  refine T.regionL ?_
  refine sp rfl (OpT.boxAgg rfl (dl rfl rfl) rfl (fun b_163 => ?_))
  refine asg rfl rfl rfl rfl rfl ?_
  refine TL'.nil (thenS_normal ?_)
  refine T.seq ?_
  refine T.seq ?_
  refine T.regionL ?_
  refine sp rfl (OpT.fieldPtr rfl (dl rfl rfl) Try.underlying71 rfl i69 (by decide) rfl ?_)
  refine sp rfl (OpT.loadBox (i := 0) rfl (dl rfl rfl) Try.underlying69 rfl rfl rfl rfl ?_)
  refine sp rfl (OpT.lenSlM (xs := x0.P) (f := c_api_Pos) rfl (dl rfl rfl) Try.underlying69 rfl ?_)
  refine sp rfl (OpT.int2 rfl rfl (dl rfl rfl) rfl rfl ?_)
  refine mv rfl rfl rfl rfl rfl ?_
  rcases bif_some h with ⟨c_164, h⟩ | ⟨c_164, h⟩
  · refine TL'.passU (.off _ _ _ _ rfl rfl rfl c_164) (dl rfl rfl) ?_
    refine TL'.passU (.off _ _ _ _ rfl rfl rfl c_164) (dl rfl rfl) ?_
    refine TL'.passU (.off _ _ _ _ rfl rfl rfl c_164) (dl rfl rfl) ?_
    refine TL'.passU (.off _ _ _ _ rfl rfl rfl c_164) (dl rfl rfl) ?_
    refine TL'.passU (.off _ _ _ _ rfl rfl rfl c_164) (dl rfl rfl) ?_
    refine TL'.passU (.off _ _ _ _ rfl rfl rfl c_164) (dl rfl rfl) ?_
    refine TL'.passU (.off _ _ _ _ rfl rfl rfl c_164) (dl rfl rfl) ?_
    refine sp rfl (OpT.pickT rfl (dl rfl rfl) rfl c_164 rfl ?_)
    refine TL'.nil (thenS_normal ?_)
    refine T.condT rfl rfl ?_
    refine T.by_turn ?_ (raddleref09_Right_j0_T K h)
    exact Turn.rp (.nil _) (.n _)
  · refine TL'.step (.on rfl rfl rfl c_164) (OpT.fieldPtr rfl (dl rfl rfl) Try.underlying71 rfl i56 (by decide) rfl ?_)
    refine TL'.step (.on rfl rfl rfl c_164) (OpT.loadBox (i := 0) rfl (dl rfl rfl) Try.underlying56 rfl rfl rfl rfl ?_)
    refine TL'.step (.on rfl rfl rfl c_164) (OpT.fieldPtr rfl (dl rfl rfl) Try.underlying71 rfl i69 (by decide) rfl ?_)
    refine TL'.step (.on rfl rfl rfl c_164) (OpT.loadBox (i := 0) rfl (dl rfl rfl) Try.underlying69 rfl rfl rfl rfl ?_)
    refine TL'.step (.on rfl rfl rfl c_164) (OpT.lenSlM (xs := x0.P) (f := c_api_Pos) rfl (dl rfl rfl) Try.underlying69 rfl ?_)
    obtain ⟨v_165, e_166, h⟩ := bind_some h
    refine TL'.step (.on rfl rfl rfl c_164) (OpT.callPA rfl (dl rfl rfl) Try.func68 rfl rfl (Args.cons rfl (Args.cons rfl Args.nil)) (CallR.nil (raddleref09_rises_T K (flx0 := false) e_166)) ?_)
    refine TL'.step (.on rfl rfl rfl c_164) (OpT.not rfl (dl rfl rfl) rfl ?_)
    refine sp rfl (OpT.pickF rfl (dl rfl rfl) rfl c_164 rfl ?_)
    refine TL'.nil (thenS_normal ?_)
    rcases bif_some h with ⟨c_167, h⟩ | ⟨c_167, h⟩
    · refine T.condT rfl c_167 ?_
      refine T.by_turn ?_ (raddleref09_Right_j0_T K h)
      exact Turn.rp (.nil _) (.n _)
    · refine T.condF rfl c_167 ?_
      refine T.skip (thenS_normal ?_)
      refine T.seq ?_
      refine T.seq ?_
      refine T.regionL ?_
      refine asg rfl rfl rfl rfl rfl ?_
      refine TL'.nil (thenS_normal ?_)
      refine T.block ?_
      refine T.loop ?_
      refine TL.by_turn ?_ (raddleref09_Right_l1_T K K (0 : Int) x0 b_163 h)
      exact Turn.rp (.cons rfl (.cons rfl (.nil _))) (.c .z (.n _))

abbrev raddleref01_Has_q (r : Bool) : Exit → St → Prop := retS Try.prog Try.f72 (fun y t => y = (.bool r) ∧ t = [])

theorem raddleref01_Has_T (K : Nat) {x0 : Arr4} {x1 : Int} {r : Bool} (h : raddleref01_Has K x0 x1 = some r) : CallR Try.prog 72 [.agg (Arr4.dc .u64 x0), .int .u8 x1] [] (.bool r) := by
  refine CallT.intro Try.func72 rfl (Nat.le_of_ble_eq_true rfl) ?_
  show T Try.prog 14 (Code.at [] (codeOf Try.f72)) ⟨paramSlots 0 [.agg (Arr4.dc .u64 x0), .int .u8 x1], []⟩ (raddleref01_Has_q r)
  unfold raddleref01_Has at h
  refine T.seq ?_
  refine T.regionL ?_
  refine sp rfl (OpT.boxAgg rfl (dl rfl rfl) rfl (fun b_10 => ?_))
  refine asg rfl rfl rfl rfl rfl ?_
  refine TL'.nil (thenS_normal ?_)
  refine T.seq ?_
  refine T.regionL ?_
  refine mv rfl rfl rfl rfl rfl ?_
  refine sp rfl (OpT.quo rfl (dl rfl rfl) rfl rfl (by decide) ?_)
  obtain ⟨g_11, h⟩ := ck_some h
  refine sp rfl (OpT.indexPtr rfl (dl rfl rfl) Try.underlying102 i100 rfl rfl g_11.1 g_11.2 ?_)
  refine sp rfl (OpT.loadBox (i := 0) rfl (dl rfl rfl) Try.underlying100 rfl rfl rfl (Arr4.oc_get (k := .u64) (a := x0) (pre := []) (post := []) g_11.1 g_11.2) ?_)
  refine mv rfl rfl rfl rfl rfl ?_
  refine sp rfl (OpT.rem rfl (dl rfl rfl) rfl rfl (by decide) ?_)
  obtain ⟨g_12, h⟩ := ck_some h
  refine sp rfl (OpT.shr rfl (dl rfl rfl) rfl rfl g_12 ?_)
  refine sp rfl (OpT.rem rfl (dl rfl rfl) rfl rfl (by decide) ?_)
  refine sp rfl (OpT.int2 rfl rfl (dl rfl rfl) rfl rfl ?_)
  refine asg rfl rfl rfl rfl rfl ?_
  refine TL'.nil (thenS_normal ?_)
  refine T.ret ?_
  exact Fin.done (.cons _ _ _ _ (.tmp 4 _ rfl) .nil) (by cases h; exact ⟨rfl, rfl⟩)

abbrev raddleref02_alike_q (r : Bool) : Exit → St → Prop := retS Try.prog Try.f69 (fun y t => y = (.bool r) ∧ t = [])

abbrev raddleref02_alike_qs11 (r : Bool) : Exit → St → Prop := thenS (fun s' => T Try.prog 27 (Code.at [1, 1] (codeOf Try.f69)) s' ((raddleref02_alike_q r))) ((raddleref02_alike_q r))

abbrev raddleref02_alike_qb0x11 (r : Bool) : Exit → St → Prop := inBlockS 0 ((raddleref02_alike_qs11 r))

theorem raddleref02_alike_l0_T {r : Bool} (K : Nat) : ∀ (k : Nat), ∀ (x0 : List Arr4) (x1 : Int) (x2 : Int) (x7_0_3 : Int) (flx0 : Bool), raddleref02_alike_l0 K k x0 x1 x2 x7_0_3 = some r → TL Try.prog 27 (Code.at [1, 0, 1, 0, 0] (codeOf Try.f69)) ⟨[(0, .sl flx0 4 (x0.map (Arr4.dc .u64))), (1, .int .u8 x1), (2, .int .u8 x2), (7, .int .i64 x7_0_3)], []⟩ (raddleref02_alike_qb0x11 r) := by
  intro k
  induction k with
  | zero =>
    intro x0 x1 x2 x7_0_3 flx0 h
    cases (show (none : Option Bool) = some r from h)
  | succ k ih =>
    intro x0 x1 x2 x7_0_3 flx0 h
    rw [raddleref02_alike_l0] at h
    refine TL.round ?_
    refine T.seq ?_
    refine T.seq ?_
    refine T.regionL ?_
    refine mv rfl rfl rfl rfl rfl ?_
    refine mv rfl rfl rfl rfl rfl ?_
    refine sp rfl (OpT.lenSlM (xs := x0) (f := (Arr4.dc .u64)) rfl (dl rfl rfl) Try.underlying99 rfl ?_)
    refine sp rfl (OpT.int2 rfl rfl (dl rfl rfl) rfl rfl ?_)
    refine TL'.nil (thenS_normal ?_)
    rcases bif_some h with ⟨c_136, h⟩ | ⟨c_136, h⟩
    · refine T.condT rfl c_136 ?_
      refine T.skip (thenS_normal ?_)
      refine T.seq ?_
      refine T.block ?_
      refine T.seq ?_
      refine DG.start ?_
      refine DG.mv rfl rfl rfl rfl rfl rfl ?_
      refine DG.mv rfl rfl rfl rfl rfl rfl ?_
      obtain ⟨v_144, e_145, h⟩ := bind_some h
      refine DG.step (c := ⟨some 16, .ref [.int .u64 v_144.a0, .int .u64 v_144.a1, .int .u64 v_144.a2, .int .u64 v_144.a3], [(14, .sl flx0 4 (x0.map (Arr4.dc .u64))), (15, .int .i64 x7_0_3)], [], []⟩) (fun t hm => One.step rfl (.free rfl) (OpT.indexSlM (xs := x0) (f := (Arr4.dc .u64)) (v := v_144) rfl (dl rfl rfl) Try.underlying99 i102 hm.s0 hm.s1 e_145 rfl)) (Ct.met_of rfl rfl) ?_
      refine DG.step (c := ⟨some 17, .agg (Arr4.dc .u64 v_144), [(16, .ref [.int .u64 v_144.a0, .int .u64 v_144.a1, .int .u64 v_144.a2, .int .u64 v_144.a3])], [], []⟩) (fun t hm => One.step rfl (.free rfl) (OpT.loadRefAgg rfl (dl rfl rfl) Try.underlying102 rfl i102 hm.s0 (Nat.le_of_ble_eq_true rfl) rfl)) (Ct.met_of rfl rfl) ?_
      refine DG.mv rfl rfl rfl rfl rfl rfl ?_
      obtain ⟨v_146, e_147, h⟩ := bind_some h
      refine DG.step (c := ⟨some 19, .bool v_146, [(17, .agg (Arr4.dc .u64 v_144)), (18, .int .u8 x1)], [], []⟩) (fun t hm => One.step rfl (.free rfl) (OpT.callPA rfl (dl rfl rfl) Try.func72 rfl rfl (Args.cons hm.s0 (Args.cons hm.s1 Args.nil)) (CallR.nil (raddleref01_Has_T K e_147)) rfl)) (Ct.met_of rfl rfl) ?_
      refine DG.mv rfl rfl rfl rfl rfl rfl ?_
      refine DG.mv rfl rfl rfl rfl rfl rfl ?_
      refine DG.step (c := ⟨some 22, .ref [.int .u64 v_144.a0, .int .u64 v_144.a1, .int .u64 v_144.a2, .int .u64 v_144.a3], [(20, .sl flx0 4 (x0.map (Arr4.dc .u64))), (21, .int .i64 x7_0_3)], [], []⟩) (fun t hm => One.step rfl (.free rfl) (OpT.indexSlM (xs := x0) (f := (Arr4.dc .u64)) (v := v_144) rfl (dl rfl rfl) Try.underlying99 i102 hm.s0 hm.s1 e_145 rfl)) (Ct.met_of rfl rfl) ?_
      refine DG.step (c := ⟨some 23, .agg (Arr4.dc .u64 v_144), [(22, .ref [.int .u64 v_144.a0, .int .u64 v_144.a1, .int .u64 v_144.a2, .int .u64 v_144.a3])], [], []⟩) (fun t hm => One.step rfl (.free rfl) (OpT.loadRefAgg rfl (dl rfl rfl) Try.underlying102 rfl i102 hm.s0 (Nat.le_of_ble_eq_true rfl) rfl)) (Ct.met_of rfl rfl) ?_
      refine DG.mv rfl rfl rfl rfl rfl rfl ?_
      obtain ⟨v_148, e_149, h⟩ := bind_some h
      refine DG.step (c := ⟨some 25, .bool v_148, [(23, .agg (Arr4.dc .u64 v_144)), (24, .int .u8 x2)], [], []⟩) (fun t hm => One.step rfl (.free rfl) (OpT.callPA rfl (dl rfl rfl) Try.func72 rfl rfl (Args.cons hm.s0 (Args.cons hm.s1 Args.nil)) (CallR.nil (raddleref01_Has_T K e_149)) rfl)) (Ct.met_of rfl rfl) ?_
      refine DG.step (c := ⟨some 26, .bool (!(v_146 == v_148)), [(19, .bool v_146), (25, .bool v_148)], [], []⟩) (fun t hm => One.step rfl (.free rfl) (OpT.bool_neq rfl (dl rfl rfl) Try.underlying4 hm.s0 hm.s1 rfl)) (Ct.met_of rfl rfl) ?_
      refine DG.fin (s1 := ⟨[(0, .sl flx0 4 (x0.map (Arr4.dc .u64))), (1, .int .u8 x1), (2, .int .u8 x2), (7, .int .i64 x7_0_3), (26, .bool (!(v_146 == v_148)))], []⟩) (ms := [0, 0, 3, 7, 0, 31, 0, 0, 192, 448, 0, 2047, 4095]) TryMixed rfl (by kernel_rfl) (by kernel_rfl) (by kernel_rfl) (.cons rfl (.cons rfl (.cons rfl (.cons rfl (.cons rfl (.nil _)))))) rfl (fun u hu => (thenS_normal (T.by_turn hu ?_)))
      rcases bif_some h with ⟨c_150, h⟩ | ⟨c_150, h⟩
      · refine T.condT rfl c_150 ?_
        refine T.seq ?_
        refine T.regionL ?_
        refine asg rfl rfl rfl rfl rfl ?_
        refine TL'.nil (thenS_normal ?_)
        refine T.ret (inBlock_ret (thenS_ret (thenS_ret (inBlock_ret (thenS_ret ?_)))))
        exact Fin.done (.cons _ _ _ _ (.tmp 6 _ rfl) .nil) (by cases h; exact ⟨rfl, rfl⟩)
      · refine T.condF rfl c_150 ?_
        refine T.skip (inBlock_normal (thenS_normal ?_))
        refine T.regionL ?_
        refine mv rfl rfl rfl rfl rfl ?_
        refine sp rfl (OpT.int2 rfl rfl (dl rfl rfl) rfl rfl ?_)
        refine asg rfl rfl rfl rfl rfl ?_
        refine TL'.nil (thenS_normal ?_)
        refine TL.by_turn ?_ (ih x0 x1 x2 (IntKind.i64.wrap (x7_0_3 + (1 : Int))) flx0 h)
        exact Turn.rp (.cons rfl (.cons rfl (.cons rfl (.cons rfl (.nil _))))) (.n _)
    · refine T.condF rfl c_136 ?_
      refine T.exit (thenS_exit (thenS_exit (inBlock_exit (thenS_normal ?_))))
      refine T.seq ?_
      refine T.regionL ?_
      refine asg rfl rfl rfl rfl rfl ?_
      refine TL'.nil (thenS_normal ?_)
      refine T.ret ?_
      exact Fin.done (.cons _ _ _ _ (.tmp 6 _ rfl) .nil) (by cases h; exact ⟨rfl, rfl⟩)

theorem raddleref02_alike_T (K : Nat) {x0 : List Arr4} {x1 : Int} {x2 : Int} {flx0 : Bool} {r : Bool} (h : raddleref02_alike K x0 x1 x2 = some r) : CallR Try.prog 69 [.sl flx0 4 (x0.map (Arr4.dc .u64)), .int .u8 x1, .int .u8 x2] [] (.bool r) := by
  refine CallT.intro Try.func69 rfl (Nat.le_of_ble_eq_true rfl) ?_
  show T Try.prog 27 (Code.at [] (codeOf Try.f69)) ⟨paramSlots 0 [.sl flx0 4 (x0.map (Arr4.dc .u64)), .int .u8 x1, .int .u8 x2], []⟩ (raddleref02_alike_q r)
  unfold raddleref02_alike at h
  refine T.seq ?_
  refine T.regionL ?_
  refine asg rfl rfl rfl rfl rfl ?_
  refine TL'.nil (thenS_normal ?_)
  refine T.seq ?_
  refine T.seq ?_
  refine T.regionL ?_
  refine asg rfl rfl rfl rfl rfl ?_
  refine TL'.nil (thenS_normal ?_)
  refine T.block ?_
  refine T.loop ?_
  refine TL.by_turn ?_ (raddleref02_alike_l0_T K K x0 x1 x2 (0 : Int) flx0 h)
  exact Turn.rp (.cons rfl (.cons rfl (.cons rfl (.cons rfl (.nil _))))) (.n _)

abbrev raddleref02_Of_q (r : api_Split) : Exit → St → Prop := retS Try.prog Try.f49 (fun y t => y = (.agg ((ArrN.dc 256 .u8 r.Of) ++ (([.int .i64 r.Many] : List DC)))) ∧ t = [])

abbrev raddleref02_Of_qs1111 (r : api_Split) : Exit → St → Prop := thenS (fun s' => T Try.prog 47 (Code.at [1, 1, 1, 1] (codeOf Try.f49)) s' ((raddleref02_Of_q r))) ((raddleref02_Of_q r))

abbrev raddleref02_Of_qb0x1111 (r : api_Split) : Exit → St → Prop := inBlockS 0 ((raddleref02_Of_qs1111 r))

abbrev raddleref02_Of_ql111010 (r : api_Split) : Exit → St → Prop := thenS (fun s' => TL Try.prog 47 (Code.at [1, 1, 1, 0, 1, 0, 0] (codeOf Try.f49)) s' ((raddleref02_Of_qb0x1111 r))) ((raddleref02_Of_qb0x1111 r))

abbrev raddleref02_Of_qs111010011 (r : api_Split) : Exit → St → Prop := thenS (fun s' => T Try.prog 47 (Code.at [1, 1, 1, 0, 1, 0, 0, 1, 1] (codeOf Try.f49)) s' ((raddleref02_Of_ql111010 r))) ((raddleref02_Of_ql111010 r))

abbrev raddleref02_Of_qb1_0x111010011 (r : api_Split) : Exit → St → Prop := inBlockS 1 ((raddleref02_Of_qs111010011 r))

abbrev raddleref02_Of_qs111010010011 (r : api_Split) : Exit → St → Prop := thenS (fun s' => T Try.prog 47 (Code.at [1, 1, 1, 0, 1, 0, 0, 1, 0, 0, 1, 1] (codeOf Try.f49)) s' ((raddleref02_Of_qb1_0x111010011 r))) ((raddleref02_Of_qb1_0x111010011 r))

abbrev raddleref02_Of_qb2_1_0x111010010011 (r : api_Split) : Exit → St → Prop := inBlockS 2 ((raddleref02_Of_qs111010010011 r))

abbrev raddleref02_Of_l0_H (r : api_Split) (go : (List Arr4) → Int → ArrN → ArrN → (List Int) → Option api_Split) : Prop := ∀ (x0 : List Arr4) (x5_0_6 : Int) (y2_0_1 : ArrN) (y3_0_3 : ArrN) (y4_0_5 : List Int) (flx0 : Bool) (b2_0 : Nat) (b3_0 : Nat) (w4_0 : Value), go x0 x5_0_6 y2_0_1 y3_0_3 y4_0_5 = some r → TL Try.prog 47 (Code.at [1, 1, 1, 0, 1, 0, 0] (codeOf Try.f49)) ⟨[(0, .sl flx0 4 (x0.map (Arr4.dc .u64))), (2, .ptr b2_0 0), (3, .ptr b3_0 0), (4, .c (.ex w4_0)), (5, .int .i64 x5_0_6)], [.box b2_0 24 ((ArrN.oc 256 .u8 y2_0_1) ++ (([.d (.int .i64 (0 : Int))] : List OC))), .box b3_0 24 ((ArrN.oc 256 .u8 y3_0_3) ++ (([.d (.int .i64 (0 : Int))] : List OC))), .arrA w4_0 5 1 (y4_0_5.map (cI .u8))]⟩ (raddleref02_Of_qb0x1111 r)

theorem raddleref02_Of_j2_T {r : api_Split} (K : Nat) (go0 : (List Arr4) → Int → ArrN → ArrN → (List Int) → Option api_Split) (hgo0 : raddleref02_Of_l0_H r go0) (x0 : List Arr4) (x5_2_6 : Int) (x6_2_7 : Int) (y2_0_1 : ArrN) (y3_0_3 : ArrN) (y4_2_5 : List Int) (flx0 : Bool) (b2_2 : Nat) (b3_2 : Nat) (w4_2 : Value) (h : raddleref02_Of_j2 K go0 x0 x5_2_6 x6_2_7 y2_0_1 y3_0_3 y4_2_5 = some r) : T Try.prog 47 (Code.at [1, 1, 1, 0, 1, 0, 0, 1, 0, 0, 1, 1, 1] (codeOf Try.f49)) ⟨[(0, .sl flx0 4 (x0.map (Arr4.dc .u64))), (2, .ptr b2_2 0), (3, .ptr b3_2 0), (4, .c (.ex w4_2)), (5, .int .i64 x5_2_6), (6, .int .i64 x6_2_7)], [.box b2_2 24 ((ArrN.oc 256 .u8 y2_0_1) ++ (([.d (.int .i64 (0 : Int))] : List OC))), .box b3_2 24 ((ArrN.oc 256 .u8 y3_0_3) ++ (([.d (.int .i64 (0 : Int))] : List OC))), .arrA w4_2 5 1 (y4_2_5.map (cI .u8))]⟩ (raddleref02_Of_qb1_0x111010011 r) := by
  unfold raddleref02_Of_j2 at h
  refine T.regionL ?_
  refine mv rfl rfl rfl rfl rfl ?_
  refine mv rfl rfl rfl rfl rfl ?_
  refine sp rfl (OpT.convInt rfl (dl rfl rfl) Try.underlying3 Try.underlying5 rfl ?_)
  refine sp rfl (OpT.fieldPtr rfl (dl rfl rfl) Try.underlying24 rfl i22 (by decide) rfl ?_)
  obtain ⟨g_177, h⟩ := ck_some h
  refine sp rfl (OpT.indexPtr rfl (dl rfl rfl) Try.underlying22 i5 rfl rfl g_177.1 g_177.2 ?_)
  refine sp rfl (OpT.storeTo (i := 1) (cells' := ((ArrN.oc 256 .u8 (ArrN.set y3_0_3 x5_2_6 (IntKind.u8.wrap x6_2_7))) ++ (([.d (.int .i64 (0 : Int))] : List OC)))) rfl rfl i5 rfl rfl rfl (ArrN.oc_lt (n := 256) (k := .u8) (a := y3_0_3) (pre := []) (post := [.d (.int .i64 (0 : Int))]) g_177.1 g_177.2) (ArrN.oc_set (n := 256) (k := .u8) (a := y3_0_3) (pre := []) (post := [.d (.int .i64 (0 : Int))]) g_177.1 g_177.2) ?_)
  refine TL'.nil (inBlock_normal (thenS_normal ?_))
  refine T.regionL ?_
  refine mv rfl rfl rfl rfl rfl ?_
  refine sp rfl (OpT.int2 rfl rfl (dl rfl rfl) rfl rfl ?_)
  refine asg rfl rfl rfl rfl rfl ?_
  refine TL'.nil (thenS_normal ?_)
  refine TL.by_turn ?_ (hgo0 x0 (IntKind.i64.wrap (x5_2_6 + (1 : Int))) y2_0_1 (ArrN.set y3_0_3 x5_2_6 (IntKind.u8.wrap x6_2_7)) y4_2_5 flx0 b2_2 b3_2 w4_2 h)
  exact Turn.rp (.cons rfl (.cons rfl (.cons rfl (.cons rfl (.cons rfl (.nil _)))))) (.c .z (.c .z (.c .z (.n _))))

theorem raddleref02_Of_l1_T {r : api_Split} (K : Nat) (go0 : (List Arr4) → Int → ArrN → ArrN → (List Int) → Option api_Split) (hgo0 : raddleref02_Of_l0_H r go0) : ∀ (k : Nat), ∀ (x0 : List Arr4) (x5_1_6 : Int) (x6_1_7 : Int) (y2_0_1 : ArrN) (y3_0_3 : ArrN) (y4_1_5 : List Int) (flx0 : Bool) (b2_1 : Nat) (b3_1 : Nat) (w4_1 : Value), raddleref02_Of_l1 K go0 k x0 x5_1_6 x6_1_7 y2_0_1 y3_0_3 y4_1_5 = some r → TL Try.prog 47 (Code.at [1, 1, 1, 0, 1, 0, 0, 1, 0, 0, 1, 0, 0, 0] (codeOf Try.f49)) ⟨[(0, .sl flx0 4 (x0.map (Arr4.dc .u64))), (2, .ptr b2_1 0), (3, .ptr b3_1 0), (4, .c (.ex w4_1)), (5, .int .i64 x5_1_6), (6, .int .i64 x6_1_7)], [.box b2_1 24 ((ArrN.oc 256 .u8 y2_0_1) ++ (([.d (.int .i64 (0 : Int))] : List OC))), .box b3_1 24 ((ArrN.oc 256 .u8 y3_0_3) ++ (([.d (.int .i64 (0 : Int))] : List OC))), .arrA w4_1 5 1 (y4_1_5.map (cI .u8))]⟩ (raddleref02_Of_qb2_1_0x111010010011 r) := by
  intro k
  induction k with
  | zero =>
    intro x0 x5_1_6 x6_1_7 y2_0_1 y3_0_3 y4_1_5 flx0 b2_1 b3_1 w4_1 h
    cases (show (none : Option api_Split) = some r from h)
  | succ k ih =>
    intro x0 x5_1_6 x6_1_7 y2_0_1 y3_0_3 y4_1_5 flx0 b2_1 b3_1 w4_1 h
    rw [raddleref02_Of_l1] at h
    refine TL.round ?_
    refine T.seq ?_
    refine T.seq ?_
    refine T.regionL ?_
    refine mv rfl rfl rfl rfl rfl ?_
    refine mv rfl rfl rfl rfl rfl ?_
    refine sp rfl (OpT.lenAM (i := 2) (xs := y4_1_5) (f := (cI .u8)) rfl (dl rfl rfl) Try.underlying29 rfl rfl ?_)
    refine sp rfl (OpT.int2 rfl rfl (dl rfl rfl) rfl rfl ?_)
    refine mv rfl rfl rfl rfl rfl ?_
    rcases bif_some h with ⟨c_168, h⟩ | ⟨c_168, h⟩
    · refine TL'.step (.on rfl rfl rfl c_168) (OpT.move rfl (dl rfl rfl) rfl ?_)
      refine TL'.step (.on rfl rfl rfl c_168) (OpT.move rfl (dl rfl rfl) rfl ?_)
      refine TL'.step (.on rfl rfl rfl c_168) (OpT.move rfl (dl rfl rfl) rfl ?_)
      refine TL'.turn (Turn.view 18 2 rfl rfl) ?_
      obtain ⟨v_169, e_170, h⟩ := bind_some h
      refine TL'.step (.on rfl rfl rfl c_168) (OpT.indexSlM (xs := y4_1_5) (f := (cI .u8)) (v := v_169) rfl (dl rfl rfl) Try.underlying29 i5 rfl rfl e_170 ?_)
      refine TL'.step (.on rfl rfl rfl c_168) (OpT.loadRef rfl (dl rfl rfl) Try.underlying5 rfl rfl rfl ?_)
      refine TL'.step (.on rfl rfl rfl c_168) (OpT.move rfl (dl rfl rfl) rfl ?_)
      refine TL'.step (.on rfl rfl rfl c_168) (OpT.convInt rfl (dl rfl rfl) Try.underlying3 Try.underlying5 rfl ?_)
      obtain ⟨v_171, e_172, h⟩ := bind_some h
      refine TL'.step (.on rfl rfl rfl c_168) (OpT.callPA rfl (dl rfl rfl) Try.func69 rfl rfl (Args.cons rfl (Args.cons rfl (Args.cons rfl Args.nil))) (CallR.nil (raddleref02_alike_T K (flx0 := flx0) e_172)) ?_)
      refine TL'.step (.on rfl rfl rfl c_168) (OpT.not rfl (dl rfl rfl) rfl ?_)
      refine sp rfl (OpT.pickT rfl (dl rfl rfl) rfl c_168 rfl ?_)
      refine TL'.nil (thenS_normal ?_)
      rcases bif_some h with ⟨c_173, h⟩ | ⟨c_173, h⟩
      · refine T.condT rfl c_173 ?_
        refine T.skip (thenS_normal ?_)
        refine T.block ?_
        refine T.regionL ?_
        refine mv rfl rfl rfl rfl rfl ?_
        refine sp rfl (OpT.int2 rfl rfl (dl rfl rfl) rfl rfl ?_)
        refine asg rfl rfl rfl rfl rfl ?_
        refine TL'.nil (inBlock_normal (thenS_normal ?_))
        refine TL.by_turn ?_ (ih x0 x5_1_6 (IntKind.i64.wrap (x6_1_7 + (1 : Int))) y2_0_1 y3_0_3 y4_1_5 flx0 b2_1 b3_1 w4_1 h)
        exact Turn.rp (.cons rfl (.cons rfl (.cons rfl (.cons rfl (.cons rfl (.cons rfl (.nil _))))))) (.c .z (.c .z (.c .z (.n _))))
      · refine T.condF rfl c_173 ?_
        refine T.exit (thenS_exit (thenS_exit (inBlock_exit (thenS_normal ?_))))
        refine T.seq ?_
        refine T.seq ?_
        refine T.regionL ?_
        refine mv rfl rfl rfl rfl rfl ?_
        refine mv rfl rfl rfl rfl rfl ?_
        refine sp rfl (OpT.lenAM (i := 2) (xs := y4_1_5) (f := (cI .u8)) rfl (dl rfl rfl) Try.underlying29 rfl rfl ?_)
        refine sp rfl (OpT.int2 rfl rfl (dl rfl rfl) rfl rfl ?_)
        refine TL'.nil (thenS_normal ?_)
        rcases bif_some h with ⟨c_174, h⟩ | ⟨c_174, h⟩
        · refine T.condT rfl c_174 ?_
          refine T.regionL ?_
          refine mv rfl rfl rfl rfl rfl ?_
          refine mv rfl rfl rfl rfl rfl ?_
          refine sp rfl (OpT.convInt rfl (dl rfl rfl) Try.underlying3 Try.underlying5 rfl ?_)
          refine sp rfl (OpT.buildSlice (elems := ([(IntKind.u8.wrap x5_1_6)] : List Int).map (cI .u8)) rfl (dl rfl rfl) Try.underlying29 i5 (by decide) rfl (all1 rfl) rfl rfl rfl (lenAll rfl) (by decide) ?_)
          obtain ⟨g_176, h⟩ := ck_some h
          refine sp rfl (OpT.appendAM (i := 2) (xs := y4_1_5) (ys := [(IntKind.u8.wrap x5_1_6)]) (f := (cI .u8)) rfl (dl rfl rfl) Try.underlying29 i5 rfl rfl rfl rfl g_176 (fun w_175 => ?_))
          refine asg rfl rfl rfl rfl rfl ?_
          refine TL'.nil (thenS_normal ?_)
          refine T.by_turn ?_ (raddleref02_Of_j2_T K go0 hgo0 x0 x5_1_6 x6_1_7 y2_0_1 y3_0_3 (y4_1_5 ++ [(IntKind.u8.wrap x5_1_6)]) flx0 b2_1 b3_1 w_175 h)
          exact Turn.rp (.cons rfl (.cons rfl (.cons rfl (.cons rfl (.cons rfl (.cons rfl (.nil _))))))) (.c .z (.c .z (.c .z (.n _))))
        · refine T.condF rfl c_174 ?_
          refine T.skip (thenS_normal ?_)
          refine T.by_turn ?_ (raddleref02_Of_j2_T K go0 hgo0 x0 x5_1_6 x6_1_7 y2_0_1 y3_0_3 y4_1_5 flx0 b2_1 b3_1 w4_1 h)
          exact Turn.rp (.cons rfl (.cons rfl (.cons rfl (.cons rfl (.cons rfl (.cons rfl (.nil _))))))) (.c .z (.c .z (.c .z (.n _))))
    · refine TL'.passU (.off _ _ _ _ rfl rfl rfl c_168) (dl rfl rfl) ?_
      refine TL'.passU (.off _ _ _ _ rfl rfl rfl c_168) (dl rfl rfl) ?_
      refine TL'.passU (.off _ _ _ _ rfl rfl rfl c_168) (dl rfl rfl) ?_
      refine TL'.passU (.off _ _ _ _ rfl rfl rfl c_168) (dl rfl rfl) ?_
      refine TL'.passU (.off _ _ _ _ rfl rfl rfl c_168) (dl rfl rfl) ?_
      refine TL'.passU (.off _ _ _ _ rfl rfl rfl c_168) (dl rfl rfl) ?_
      refine TL'.passU (.off _ _ _ _ rfl rfl rfl c_168) (dl rfl rfl) ?_
      refine TL'.passU (.off _ _ _ _ rfl rfl rfl c_168) (dl rfl rfl) ?_
      refine TL'.passU (.off _ _ _ _ rfl rfl rfl c_168) (dl rfl rfl) ?_
      refine sp rfl (OpT.pickF rfl (dl rfl rfl) rfl c_168 rfl ?_)
      refine TL'.nil (thenS_normal ?_)
      refine T.condF rfl rfl ?_
      refine T.exit (thenS_exit (thenS_exit (inBlock_exit (thenS_normal ?_))))
      refine T.seq ?_
      refine T.seq ?_
      refine T.regionL ?_
      refine mv rfl rfl rfl rfl rfl ?_
      refine mv rfl rfl rfl rfl rfl ?_
      refine sp rfl (OpT.lenAM (i := 2) (xs := y4_1_5) (f := (cI .u8)) rfl (dl rfl rfl) Try.underlying29 rfl rfl ?_)
      refine sp rfl (OpT.int2 rfl rfl (dl rfl rfl) rfl rfl ?_)
      refine TL'.nil (thenS_normal ?_)
      rcases bif_some h with ⟨c_178, h⟩ | ⟨c_178, h⟩
      · refine T.condT rfl c_178 ?_
        refine T.regionL ?_
        refine mv rfl rfl rfl rfl rfl ?_
        refine mv rfl rfl rfl rfl rfl ?_
        refine sp rfl (OpT.convInt rfl (dl rfl rfl) Try.underlying3 Try.underlying5 rfl ?_)
        refine sp rfl (OpT.buildSlice (elems := ([(IntKind.u8.wrap x5_1_6)] : List Int).map (cI .u8)) rfl (dl rfl rfl) Try.underlying29 i5 (by decide) rfl (all1 rfl) rfl rfl rfl (lenAll rfl) (by decide) ?_)
        obtain ⟨g_180, h⟩ := ck_some h
        refine sp rfl (OpT.appendAM (i := 2) (xs := y4_1_5) (ys := [(IntKind.u8.wrap x5_1_6)]) (f := (cI .u8)) rfl (dl rfl rfl) Try.underlying29 i5 rfl rfl rfl rfl g_180 (fun w_179 => ?_))
        refine asg rfl rfl rfl rfl rfl ?_
        refine TL'.nil (thenS_normal ?_)
        refine T.by_turn ?_ (raddleref02_Of_j2_T K go0 hgo0 x0 x5_1_6 x6_1_7 y2_0_1 y3_0_3 (y4_1_5 ++ [(IntKind.u8.wrap x5_1_6)]) flx0 b2_1 b3_1 w_179 h)
        exact Turn.rp (.cons rfl (.cons rfl (.cons rfl (.cons rfl (.cons rfl (.cons rfl (.nil _))))))) (.c .z (.c .z (.c .z (.n _))))
      · refine T.condF rfl c_178 ?_
        refine T.skip (thenS_normal ?_)
        refine T.by_turn ?_ (raddleref02_Of_j2_T K go0 hgo0 x0 x5_1_6 x6_1_7 y2_0_1 y3_0_3 y4_1_5 flx0 b2_1 b3_1 w4_1 h)
        exact Turn.rp (.cons rfl (.cons rfl (.cons rfl (.cons rfl (.cons rfl (.cons rfl (.nil _))))))) (.c .z (.c .z (.c .z (.n _))))

theorem raddleref02_Of_l0_T {r : api_Split} (K : Nat) : ∀ (k : Nat), ∀ (x0 : List Arr4) (x5_0_6 : Int) (y2_0_1 : ArrN) (y3_0_3 : ArrN) (y4_0_5 : List Int) (flx0 : Bool) (b2_0 : Nat) (b3_0 : Nat) (w4_0 : Value), raddleref02_Of_l0 K k x0 x5_0_6 y2_0_1 y3_0_3 y4_0_5 = some r → TL Try.prog 47 (Code.at [1, 1, 1, 0, 1, 0, 0] (codeOf Try.f49)) ⟨[(0, .sl flx0 4 (x0.map (Arr4.dc .u64))), (2, .ptr b2_0 0), (3, .ptr b3_0 0), (4, .c (.ex w4_0)), (5, .int .i64 x5_0_6)], [.box b2_0 24 ((ArrN.oc 256 .u8 y2_0_1) ++ (([.d (.int .i64 (0 : Int))] : List OC))), .box b3_0 24 ((ArrN.oc 256 .u8 y3_0_3) ++ (([.d (.int .i64 (0 : Int))] : List OC))), .arrA w4_0 5 1 (y4_0_5.map (cI .u8))]⟩ (raddleref02_Of_qb0x1111 r) := by
  intro k
  induction k with
  | zero =>
    intro x0 x5_0_6 y2_0_1 y3_0_3 y4_0_5 flx0 b2_0 b3_0 w4_0 h
    cases (show (none : Option api_Split) = some r from h)
  | succ k ih =>
    intro x0 x5_0_6 y2_0_1 y3_0_3 y4_0_5 flx0 b2_0 b3_0 w4_0 h
    rw [raddleref02_Of_l0] at h
    refine TL.round ?_
    refine T.seq ?_
    refine T.seq ?_
    refine T.regionL ?_
    refine mv rfl rfl rfl rfl rfl ?_
    refine sp rfl (OpT.int2 rfl rfl (dl rfl rfl) rfl rfl ?_)
    refine TL'.nil (thenS_normal ?_)
    rcases bif_some h with ⟨c_167, h⟩ | ⟨c_167, h⟩
    · refine T.condT rfl c_167 ?_
      refine T.skip (thenS_normal ?_)
      refine T.seq ?_
      refine T.block ?_
      refine T.seq ?_
      refine T.regionL ?_
      refine asg rfl rfl rfl rfl rfl ?_
      refine TL'.nil (thenS_normal ?_)
      refine T.seq ?_
      refine T.block ?_
      refine T.loop ?_
      refine TL.by_turn ?_ (raddleref02_Of_l1_T K (raddleref02_Of_l0 K k) ih K x0 x5_0_6 (0 : Int) y2_0_1 y3_0_3 y4_0_5 flx0 b2_0 b3_0 w4_0 h)
      exact Turn.rp (.cons rfl (.cons rfl (.cons rfl (.cons rfl (.cons rfl (.cons rfl (.nil _))))))) (.c .z (.c .z (.c .z (.n _))))
    · refine T.condF rfl c_167 ?_
      refine T.exit (thenS_exit (thenS_exit (inBlock_exit (thenS_normal ?_))))
      refine T.seq ?_
      refine T.regionL ?_
      refine mv rfl rfl rfl rfl rfl ?_
      refine sp rfl (OpT.lenAM (i := 2) (xs := y4_0_5) (f := (cI .u8)) rfl (dl rfl rfl) Try.underlying29 rfl rfl ?_)
      refine sp rfl (OpT.fieldPtr rfl (dl rfl rfl) Try.underlying24 rfl i3 (by decide) rfl ?_)
      refine sp rfl (OpT.storeTo (i := 1) (cells' := ((ArrN.oc 256 .u8 y3_0_3) ++ (([.d (.int .i64 (y4_0_5.length : Int))] : List OC)))) rfl rfl i3 rfl rfl rfl (Nat.le_of_ble_eq_true rfl) rfl ?_)
      refine TL'.nil (thenS_normal ?_)
      refine T.seq ?_
      refine T.regionL ?_
      refine sp rfl (OpT.loadBoxAgg (i := 1) (l := ((ArrN.dc 256 .u8 y3_0_3) ++ (([.int .i64 (y4_0_5.length : Int)] : List DC)))) rfl (dl rfl rfl) Try.underlying24 rfl i24 rfl rfl rfl rfl ?_)
      refine sp rfl (OpT.storeAggTo (i := 0) (cells' := ((ArrN.oc 256 .u8 y3_0_3) ++ (([.d (.int .i64 (y4_0_5.length : Int))] : List OC)))) rfl rfl i24 rfl rfl rfl rfl (Nat.le_of_ble_eq_true rfl) rfl ?_)
      refine TL'.nil (thenS_normal ?_)
      refine T.ret ?_
      exact Fin.done (.cons _ _ _ _ (.cellAgg 2 24 _ 0 0 24 _ ((ArrN.dc 256 .u8 y3_0_3) ++ (([.int .i64 (y4_0_5.length : Int)] : List DC))) _ _ 257 _ rfl rfl rfl rfl Try.underlying24 rfl i24) .nil) (by cases h; exact ⟨rfl, rfl⟩)

theorem raddleref02_Of_T (K : Nat) {x0 : List Arr4} {flx0 : Bool} {r : api_Split} (h : raddleref02_Of K x0 = some r) : CallR Try.prog 49 [.sl flx0 4 (x0.map (Arr4.dc .u64))] [] (.agg ((ArrN.dc 256 .u8 r.Of) ++ (([.int .i64 r.Many] : List DC)))) := by
  refine CallT.intro Try.func49 rfl (Nat.le_of_ble_eq_true rfl) ?_
  show T Try.prog 47 (Code.at [] (codeOf Try.f49)) ⟨paramSlots 0 [.sl flx0 4 (x0.map (Arr4.dc .u64))], []⟩ (raddleref02_Of_q r)
  unfold raddleref02_Of at h
  refine T.seq ?_
  refine T.regionL ?_
  refine sp rfl (OpT.alloc' rfl (dl rfl rfl) i24 rfl (fun b_165 => ?_))
  refine TL'.nil (thenS_normal ?_)
  refine T.seq ?_
  refine T.regionL ?_
  refine sp rfl (OpT.build (l := ((ArrN.dc 256 .u8 (ArrN.mk fun _ => 0)) ++ (([.int .i64 (0 : Int)] : List DC)))) rfl (dl rfl rfl) (built_struct (pl := [(0, 256), (256, 1)]) Try.underlying24 i24 rfl) (all1 rfl) rfl rfl ?_)
  refine sp rfl (OpT.alloc' rfl (dl rfl rfl) i24 rfl (fun b_166 => ?_))
  refine sp rfl (OpT.storeAggTo (i := 0) (cells' := ((ArrN.oc 256 .u8 (ArrN.mk fun _ => 0)) ++ (([.d (.int .i64 (0 : Int))] : List OC)))) rfl rfl i24 rfl rfl rfl rfl (Nat.le_of_ble_eq_true rfl) rfl ?_)
  refine TL'.nil (thenS_normal ?_)
  refine T.seq ?_
  refine T.regionL ?_
  refine asg rfl rfl rfl rfl rfl ?_
  refine TL'.nil (thenS_normal ?_)
  refine T.seq ?_
  refine T.seq ?_
  refine T.regionL ?_
  refine asg rfl rfl rfl rfl rfl ?_
  refine TL'.nil (thenS_normal ?_)
  refine T.block ?_
  refine T.loop ?_
  refine TL.by_turn (Turn.nilA 5 1) ?_
  refine TL.by_turn ?_ (raddleref02_Of_l0_T K K x0 (0 : Int) (ArrN.mk fun _ => 0) (ArrN.mk fun _ => 0) [] flx0 b_165 b_166 (nilv 2) h)
  exact Turn.rp (.cons rfl (.cons rfl (.cons rfl (.cons rfl (.cons rfl (.nil _)))))) (.c (.s (.s .z)) (.c (.s .z) (.c .z (.n _))))

abbrev raddleref11_builder_digit_q (bx0 : Nat) (x0 : raddleref11_builder) (r : Int) : Exit → St → Prop := retS Try.prog Try.f87 (fun y t => ∃ γ : Nat → Value, y = (.int .i64 r) ∧ t = [.box bx0 98 (([.d (.sl false 1 (x0.g.First.map (cI .i64))), .d (.sl false 9 (x0.g.P.map c_api_Pos)), .d (.ex (γ 0))] : List OC) ++ ((ArrN.oc 256 .u8 x0.a.Split.Of) ++ (([.d (.int .i64 x0.a.Split.Many), .d (.ex (γ 1)), .d (.ex (γ 2)), .d (.int .i64 x0.e)] : List OC)))), .arrA (γ 0) 3 1 (x0.number.map (cI .i64)), .arrA (γ 1) 42 2 (x0.a.Counts.map (Arr2.dc .i64)), .arrX (γ 2) 59 4 0 (x0.a.States.map c_api_State)])

abbrev raddleref11_builder_digit_qs11 (bx0 : Nat) (x0 : raddleref11_builder) (r : Int) : Exit → St → Prop := thenS (fun s' => T Try.prog 34 (Code.at [1, 1] (codeOf Try.f87)) s' ((raddleref11_builder_digit_q bx0 x0 r))) ((raddleref11_builder_digit_q bx0 x0 r))

abbrev raddleref11_builder_digit_qb0x11 (bx0 : Nat) (x0 : raddleref11_builder) (r : Int) : Exit → St → Prop := inBlockS 0 ((raddleref11_builder_digit_qs11 bx0 x0 r))

theorem raddleref11_builder_digit_l0_T {r : Int} (K : Nat) (bx0 : Nat) (x0 : raddleref11_builder) : ∀ (k : Nat), ∀ (x2_0_8 : Int) (x3 : Int) (x9_0_14 : Int) (x0 : raddleref11_builder) (x1 : api_State) (w0_0 : Value) (w0_0a : Value) (w0_0aa : Value) (b5_0 : Nat), raddleref11_builder_digit_l0 K k x2_0_8 x3 x9_0_14 x0 x1 = some r → TL Try.prog 34 (Code.at [1, 0, 1, 0, 0] (codeOf Try.f87)) ⟨[(0, .ptr bx0 0), (2, .int .i64 x2_0_8), (3, .int .i64 x3), (5, .ptr b5_0 0), (9, .int .i64 x9_0_14)], [.box bx0 98 (([.d (.sl false 1 (x0.g.First.map (cI .i64))), .d (.sl false 9 (x0.g.P.map c_api_Pos)), .d (.ex w0_0)] : List OC) ++ ((ArrN.oc 256 .u8 x0.a.Split.Of) ++ (([.d (.int .i64 x0.a.Split.Many), .d (.ex w0_0a), .d (.ex w0_0aa), .d (.int .i64 x0.e)] : List OC)))), .arrA w0_0 3 1 (x0.number.map (cI .i64)), .arrA w0_0a 42 2 (x0.a.Counts.map (Arr2.dc .i64)), .arrX w0_0aa 59 4 0 (x0.a.States.map c_api_State), .box b5_0 59 [.d (.sl false 1 (x1.L.map (cI .i64))), .d (.sl false 1 (x1.R.map (cI .i64))), .d (.sl false 1 (x1.Rule.map (cI .i64))), .d (.sl false 1 (x1.Next.map (cL 2 c_api_Move)))]]⟩ (raddleref11_builder_digit_qb0x11 bx0 x0 r) := by
  intro k
  induction k with
  | zero =>
    intro x2_0_8 x3 x9_0_14 x0 x1 w0_0 w0_0a w0_0aa b5_0 h
    cases (show (none : Option Int) = some r from h)
  | succ k ih =>
    intro x2_0_8 x3 x9_0_14 x0 x1 w0_0 w0_0a w0_0aa b5_0 h
    rw [raddleref11_builder_digit_l0] at h
    refine TL.round ?_
    refine T.seq ?_
    refine T.seq ?_
    refine T.regionL ?_
    refine mv rfl rfl rfl rfl rfl ?_
    refine sp rfl (OpT.fieldPtr rfl (dl rfl rfl) Try.underlying59 rfl i56 (by decide) rfl ?_)
    refine sp rfl (OpT.loadBox (i := 4) rfl (dl rfl rfl) Try.underlying56 rfl rfl rfl rfl ?_)
    refine sp rfl (OpT.lenSlM (xs := x1.R) (f := (cI .i64)) rfl (dl rfl rfl) Try.underlying56 rfl ?_)
    refine sp rfl (OpT.int2 rfl rfl (dl rfl rfl) rfl rfl ?_)
    refine TL'.nil (thenS_normal ?_)
    rcases bif_some h with ⟨c_122, h⟩ | ⟨c_122, h⟩
    · refine T.condT rfl c_122 ?_
      refine T.skip (thenS_normal ?_)
      refine T.seq ?_
      refine T.block ?_
      refine T.seq ?_
      refine T.seq ?_
      refine DG.start ?_
      refine DG.step (c := ⟨some 17, .ptr b5_0 (0 + 1), [(5, .ptr b5_0 0)], [], []⟩) (fun t hm => One.step rfl (.free rfl) (OpT.fieldPtr rfl (dl rfl rfl) Try.underlying59 rfl i56 (by decide) hm.s0 rfl)) (Ct.met_of rfl rfl) ?_
      refine DG.step (c := ⟨some 18, .sl false 1 (x1.R.map (cI .i64)), [(17, .ptr b5_0 (0 + 1))], [(4, .box b5_0 59 [.d (.sl false 1 (x1.L.map (cI .i64))), .d (.sl false 1 (x1.R.map (cI .i64))), .d (.sl false 1 (x1.Rule.map (cI .i64))), .d (.sl false 1 (x1.Next.map (cL 2 c_api_Move)))])], []⟩) (fun t hm => One.step rfl (.free rfl) (OpT.loadBox (i := 4) rfl (dl rfl rfl) Try.underlying56 rfl hm.s0 hm.o0 rfl rfl)) (Ct.met_of rfl rfl) ?_
      refine DG.mv rfl rfl rfl rfl rfl rfl ?_
      obtain ⟨v_128, e_129, h⟩ := bind_some h
      refine DG.step (c := ⟨some 20, .ref [.int .i64 v_128], [(18, .sl false 1 (x1.R.map (cI .i64))), (19, .int .i64 x9_0_14)], [], []⟩) (fun t hm => One.step rfl (.free rfl) (OpT.indexSlM (xs := x1.R) (f := (cI .i64)) (v := v_128) rfl (dl rfl rfl) Try.underlying56 i3 hm.s0 hm.s1 e_129 rfl)) (Ct.met_of rfl rfl) ?_
      refine DG.step (c := ⟨some 21, .int .i64 v_128, [(20, .ref [.int .i64 v_128])], [], []⟩) (fun t hm => One.step rfl (.free rfl) (OpT.loadRef rfl (dl rfl rfl) Try.underlying3 rfl hm.s0 rfl rfl)) (Ct.met_of rfl rfl) ?_
      refine DG.mv rfl rfl rfl rfl rfl rfl ?_
      refine DG.step (c := ⟨some 23, .ptr bx0 0, [(22, .ptr bx0 0)], [], []⟩) (fun t hm => One.step rfl (.free rfl) (OpT.nilCheck rfl (dl rfl rfl) hm.s0 rfl rfl)) (Ct.met_of rfl rfl) ?_
      refine DG.step (c := ⟨some 24, .ptr bx0 (0 + 2), [(23, .ptr bx0 0)], [], []⟩) (fun t hm => One.step rfl (.free rfl) (OpT.fieldPtr rfl (dl rfl rfl) Try.underlying98 rfl i56 (by decide) hm.s0 rfl)) (Ct.met_of rfl rfl) ?_
      refine DG.step (c := ⟨some 25, .sl false 1 (x0.number.map (cI .i64)), [(24, .ptr bx0 (0 + 2))], [(0, .box bx0 98 (([.d (.sl false 1 (x0.g.First.map (cI .i64))), .d (.sl false 9 (x0.g.P.map c_api_Pos)), .d (.ex w0_0)] : List OC) ++ ((ArrN.oc 256 .u8 x0.a.Split.Of) ++ (([.d (.int .i64 x0.a.Split.Many), .d (.ex w0_0a), .d (.ex w0_0aa), .d (.int .i64 x0.e)] : List OC))))), (1, .arrA w0_0 3 1 (x0.number.map (cI .i64)))], []⟩) (fun t hm => One.step rfl (.free rfl) (OpT.thenTurn (OpT.loadBox (i := 0) rfl (dl rfl rfl) Try.underlying56 rfl hm.s0 hm.o0 rfl rfl) (Turn.viewP 25 1 hm.o1) rfl)) (Ct.met_of rfl rfl) ?_
      refine DG.mv rfl rfl rfl rfl rfl rfl ?_
      obtain ⟨v_130, e_131, h⟩ := bind_some h
      refine DG.step (c := ⟨some 27, .ref [.int .i64 v_130], [(25, .sl false 1 (x0.number.map (cI .i64))), (26, .int .i64 x3)], [], []⟩) (fun t hm => One.step rfl (.free rfl) (OpT.indexSlM (xs := x0.number) (f := (cI .i64)) (v := v_130) rfl (dl rfl rfl) Try.underlying56 i3 hm.s0 hm.s1 e_131 rfl)) (Ct.met_of rfl rfl) ?_
      refine DG.step (c := ⟨some 28, .int .i64 v_130, [(27, .ref [.int .i64 v_130])], [], []⟩) (fun t hm => One.step rfl (.free rfl) (OpT.loadRef rfl (dl rfl rfl) Try.underlying3 rfl hm.s0 rfl rfl)) (Ct.met_of rfl rfl) ?_
      refine DG.step (c := ⟨some 29, .bool (v_128 == v_130), [(21, .int .i64 v_128), (28, .int .i64 v_130)], [], []⟩) (fun t hm => One.step rfl (.free rfl) (OpT.int2 rfl rfl (dl rfl rfl) hm.s0 hm.s1 rfl)) (Ct.met_of rfl rfl) ?_
      refine DG.fin (s1 := ⟨[(0, .ptr bx0 0), (2, .int .i64 x2_0_8), (3, .int .i64 x3), (5, .ptr b5_0 0), (9, .int .i64 x9_0_14), (29, .bool (v_128 == v_130))], [.box bx0 98 (([.d (.sl false 1 (x0.g.First.map (cI .i64))), .d (.sl false 9 (x0.g.P.map c_api_Pos)), .d (.ex w0_0)] : List OC) ++ ((ArrN.oc 256 .u8 x0.a.Split.Of) ++ (([.d (.int .i64 x0.a.Split.Many), .d (.ex w0_0a), .d (.ex w0_0aa), .d (.int .i64 x0.e)] : List OC)))), .arrA w0_0 3 1 (x0.number.map (cI .i64)), .arrA w0_0a 42 2 (x0.a.Counts.map (Arr2.dc .i64)), .arrX w0_0aa 59 4 0 (x0.a.States.map c_api_State), .box b5_0 59 [.d (.sl false 1 (x1.L.map (cI .i64))), .d (.sl false 1 (x1.R.map (cI .i64))), .d (.sl false 1 (x1.Rule.map (cI .i64))), .d (.sl false 1 (x1.Next.map (cL 2 c_api_Move)))]]⟩) (ms := [0, 1, 0, 7, 15, 0, 32, 96, 224, 0, 992, 2016, 4095]) TryMixed rfl (by kernel_rfl) (by kernel_rfl) (by kernel_rfl) (.cons rfl (.cons rfl (.cons rfl (.cons rfl (.cons rfl (.cons rfl (.nil _))))))) rfl (fun u hu => (thenS_normal (T.by_turn hu ?_)))
      rcases bif_some h with ⟨c_132, h⟩ | ⟨c_132, h⟩
      · refine T.condT rfl c_132 ?_
        refine T.seq ?_
        refine T.regionL ?_
        refine mv rfl rfl rfl rfl rfl ?_
        refine sp rfl (OpT.rem rfl (dl rfl rfl) rfl rfl (by decide) ?_)
        refine asg rfl rfl rfl rfl rfl ?_
        refine TL'.nil (thenS_normal ?_)
        refine T.ret (thenS_ret (inBlock_ret (thenS_ret (thenS_ret (inBlock_ret (thenS_ret ?_))))))
        exact Fin.doneK (.cons _ _ _ _ (.tmp 8 _ rfl) .nil) (.cons 0 rfl (.cons 0 rfl (.cons 0 rfl (.cons 0 rfl (.nil _))))) (by cases h; exact ⟨gl [w0_0, w0_0a, w0_0aa], rfl, rfl⟩)
      · refine T.condF rfl c_132 ?_
        refine T.skip (thenS_normal ?_)
        refine T.regionL ?_
        refine mv rfl rfl rfl rfl rfl ?_
        refine sp rfl (OpT.quo rfl (dl rfl rfl) rfl rfl (by decide) ?_)
        refine asg rfl rfl rfl rfl rfl ?_
        refine TL'.nil (inBlock_normal (thenS_normal ?_))
        refine T.regionL ?_
        refine mv rfl rfl rfl rfl rfl ?_
        refine sp rfl (OpT.int2 rfl rfl (dl rfl rfl) rfl rfl ?_)
        refine asg rfl rfl rfl rfl rfl ?_
        refine TL'.nil (thenS_normal ?_)
        refine TL.by_turn ?_ (ih (IntKind.i64.wrap (Int.tdiv x2_0_8 (3 : Int))) x3 (IntKind.i64.wrap (x9_0_14 + (1 : Int))) x0 x1 w0_0 w0_0a w0_0aa b5_0 h)
        exact Turn.rp (.cons rfl (.cons rfl (.cons rfl (.cons rfl (.cons rfl (.nil _)))))) (.c .z (.c .z (.c .z (.c .z (.c .z (.n _))))))
    · refine T.condF rfl c_122 ?_
      refine T.exit (thenS_exit (thenS_exit (inBlock_exit (thenS_normal ?_))))
      refine T.seq ?_
      refine T.regionL ?_
      refine asg rfl rfl rfl rfl rfl ?_
      refine TL'.nil (thenS_normal ?_)
      refine T.ret ?_
      exact Fin.doneK (.cons _ _ _ _ (.tmp 8 _ rfl) .nil) (.cons 0 rfl (.cons 0 rfl (.cons 0 rfl (.cons 0 rfl (.nil _))))) (by cases h; exact ⟨gl [w0_0, w0_0a, w0_0aa], rfl, rfl⟩)

theorem raddleref11_builder_digit_T (K : Nat) {x0 : raddleref11_builder} {x1 : api_State} {x2 : Int} {x3 : Int} {bx0 : Nat} {wx0c1 : Value} {wx0c2c1 : Value} {wx0c2c2 : Value} {r : Int} (h : raddleref11_builder_digit K x0 x1 x2 x3 = some r) : CallG Try.prog 87 [.ptr bx0 0, .agg [.sl false 1 (x1.L.map (cI .i64)), .sl false 1 (x1.R.map (cI .i64)), .sl false 1 (x1.Rule.map (cI .i64)), .sl false 1 (x1.Next.map (cL 2 c_api_Move))], .int .i64 x2, .int .i64 x3] [.box bx0 98 (([.d (.sl false 1 (x0.g.First.map (cI .i64))), .d (.sl false 9 (x0.g.P.map c_api_Pos)), .d (.ex wx0c1)] : List OC) ++ ((ArrN.oc 256 .u8 x0.a.Split.Of) ++ (([.d (.int .i64 x0.a.Split.Many), .d (.ex wx0c2c1), .d (.ex wx0c2c2), .d (.int .i64 x0.e)] : List OC)))), .arrA wx0c1 3 1 (x0.number.map (cI .i64)), .arrA wx0c2c1 42 2 (x0.a.Counts.map (Arr2.dc .i64)), .arrX wx0c2c2 59 4 0 (x0.a.States.map c_api_State)] (fun γ => (.int .i64 r)) (fun γ => [.box bx0 98 (([.d (.sl false 1 (x0.g.First.map (cI .i64))), .d (.sl false 9 (x0.g.P.map c_api_Pos)), .d (.ex (γ 0))] : List OC) ++ ((ArrN.oc 256 .u8 x0.a.Split.Of) ++ (([.d (.int .i64 x0.a.Split.Many), .d (.ex (γ 1)), .d (.ex (γ 2)), .d (.int .i64 x0.e)] : List OC)))), .arrA (γ 0) 3 1 (x0.number.map (cI .i64)), .arrA (γ 1) 42 2 (x0.a.Counts.map (Arr2.dc .i64)), .arrX (γ 2) 59 4 0 (x0.a.States.map c_api_State)]) := by
  refine CallT.intro Try.func87 rfl (Nat.le_of_ble_eq_true rfl) ?_
  show T Try.prog 34 (Code.at [] (codeOf Try.f87)) ⟨paramSlots 0 [.ptr bx0 0, .agg [.sl false 1 (x1.L.map (cI .i64)), .sl false 1 (x1.R.map (cI .i64)), .sl false 1 (x1.Rule.map (cI .i64)), .sl false 1 (x1.Next.map (cL 2 c_api_Move))], .int .i64 x2, .int .i64 x3], [.box bx0 98 (([.d (.sl false 1 (x0.g.First.map (cI .i64))), .d (.sl false 9 (x0.g.P.map c_api_Pos)), .d (.ex wx0c1)] : List OC) ++ ((ArrN.oc 256 .u8 x0.a.Split.Of) ++ (([.d (.int .i64 x0.a.Split.Many), .d (.ex wx0c2c1), .d (.ex wx0c2c2), .d (.int .i64 x0.e)] : List OC)))), .arrA wx0c1 3 1 (x0.number.map (cI .i64)), .arrA wx0c2c1 42 2 (x0.a.Counts.map (Arr2.dc .i64)), .arrX wx0c2c2 59 4 0 (x0.a.States.map c_api_State)]⟩ (raddleref11_builder_digit_q bx0 x0 r)
  unfold raddleref11_builder_digit at h
  refine T.seq ?_
  refine T.regionL ?_
  refine sp rfl (OpT.boxAgg rfl (dl rfl rfl) rfl (fun b_121 => ?_))
  refine asg rfl rfl rfl rfl rfl ?_
  refine TL'.nil (thenS_normal ?_)
  refine T.seq ?_
  refine T.seq ?_
  refine T.regionL ?_
  refine asg rfl rfl rfl rfl rfl ?_
  refine TL'.nil (thenS_normal ?_)
  refine T.block ?_
  refine T.loop ?_
  refine TL.by_turn ?_ (raddleref11_builder_digit_l0_T K bx0 x0 K x2 x3 (0 : Int) x0 x1 wx0c1 wx0c2c1 wx0c2c2 b_121 h)
  exact Turn.rp (.cons rfl (.cons rfl (.cons rfl (.cons rfl (.cons rfl (.nil _)))))) (.c (.s .z) (.c (.s .z) (.c (.s .z) (.c (.s .z) (.c .z (.n _))))))

abbrev raddleref11_builder_ripe_q (bx0 : Nat) (x0 : raddleref11_builder) (r : Bool) : Exit → St → Prop := retS Try.prog Try.f70 (fun y t => ∃ γ : Nat → Value, y = (.bool r) ∧ t = [.box bx0 98 (([.d (.sl false 1 (x0.g.First.map (cI .i64))), .d (.sl false 9 (x0.g.P.map c_api_Pos)), .d (.ex (γ 0))] : List OC) ++ ((ArrN.oc 256 .u8 x0.a.Split.Of) ++ (([.d (.int .i64 x0.a.Split.Many), .d (.ex (γ 1)), .d (.ex (γ 2)), .d (.int .i64 x0.e)] : List OC)))), .arrA (γ 0) 3 1 (x0.number.map (cI .i64)), .arrA (γ 1) 42 2 (x0.a.Counts.map (Arr2.dc .i64)), .arrX (γ 2) 59 4 0 (x0.a.States.map c_api_State)])

theorem raddleref11_builder_ripe_T (K : Nat) {x0 : raddleref11_builder} {x1 : api_State} {x2 : Int} {x3 : Int} {bx0 : Nat} {wx0c1 : Value} {wx0c2c1 : Value} {wx0c2c2 : Value} {r : Bool} (h : raddleref11_builder_ripe K x0 x1 x2 x3 = some r) : CallG Try.prog 70 [.ptr bx0 0, .agg [.sl false 1 (x1.L.map (cI .i64)), .sl false 1 (x1.R.map (cI .i64)), .sl false 1 (x1.Rule.map (cI .i64)), .sl false 1 (x1.Next.map (cL 2 c_api_Move))], .int .i64 x2, .int .i64 x3] [.box bx0 98 (([.d (.sl false 1 (x0.g.First.map (cI .i64))), .d (.sl false 9 (x0.g.P.map c_api_Pos)), .d (.ex wx0c1)] : List OC) ++ ((ArrN.oc 256 .u8 x0.a.Split.Of) ++ (([.d (.int .i64 x0.a.Split.Many), .d (.ex wx0c2c1), .d (.ex wx0c2c2), .d (.int .i64 x0.e)] : List OC)))), .arrA wx0c1 3 1 (x0.number.map (cI .i64)), .arrA wx0c2c1 42 2 (x0.a.Counts.map (Arr2.dc .i64)), .arrX wx0c2c2 59 4 0 (x0.a.States.map c_api_State)] (fun γ => (.bool r)) (fun γ => [.box bx0 98 (([.d (.sl false 1 (x0.g.First.map (cI .i64))), .d (.sl false 9 (x0.g.P.map c_api_Pos)), .d (.ex (γ 0))] : List OC) ++ ((ArrN.oc 256 .u8 x0.a.Split.Of) ++ (([.d (.int .i64 x0.a.Split.Many), .d (.ex (γ 1)), .d (.ex (γ 2)), .d (.int .i64 x0.e)] : List OC)))), .arrA (γ 0) 3 1 (x0.number.map (cI .i64)), .arrA (γ 1) 42 2 (x0.a.Counts.map (Arr2.dc .i64)), .arrX (γ 2) 59 4 0 (x0.a.States.map c_api_State)]) := by
  refine CallT.intro Try.func70 rfl (Nat.le_of_ble_eq_true rfl) ?_
  show T Try.prog 15 (Code.at [] (codeOf Try.f70)) ⟨paramSlots 0 [.ptr bx0 0, .agg [.sl false 1 (x1.L.map (cI .i64)), .sl false 1 (x1.R.map (cI .i64)), .sl false 1 (x1.Rule.map (cI .i64)), .sl false 1 (x1.Next.map (cL 2 c_api_Move))], .int .i64 x2, .int .i64 x3], [.box bx0 98 (([.d (.sl false 1 (x0.g.First.map (cI .i64))), .d (.sl false 9 (x0.g.P.map c_api_Pos)), .d (.ex wx0c1)] : List OC) ++ ((ArrN.oc 256 .u8 x0.a.Split.Of) ++ (([.d (.int .i64 x0.a.Split.Many), .d (.ex wx0c2c1), .d (.ex wx0c2c2), .d (.int .i64 x0.e)] : List OC)))), .arrA wx0c1 3 1 (x0.number.map (cI .i64)), .arrA wx0c2c1 42 2 (x0.a.Counts.map (Arr2.dc .i64)), .arrX wx0c2c2 59 4 0 (x0.a.States.map c_api_State)]⟩ (raddleref11_builder_ripe_q bx0 x0 r)
  unfold raddleref11_builder_ripe at h
  refine T.seq ?_
  refine T.regionL ?_
  refine sp rfl (OpT.boxAgg rfl (dl rfl rfl) rfl (fun b_13 => ?_))
  refine asg rfl rfl rfl rfl rfl ?_
  refine TL'.nil (thenS_normal ?_)
  refine T.seq ?_
  refine T.regionL ?_
  refine mv rfl rfl rfl rfl rfl ?_
  refine sp rfl (OpT.loadBoxAgg (i := 0) (l := [.sl false 1 (x1.L.map (cI .i64)), .sl false 1 (x1.R.map (cI .i64)), .sl false 1 (x1.Rule.map (cI .i64)), .sl false 1 (x1.Next.map (cL 2 c_api_Move))]) rfl (dl rfl rfl) Try.underlying59 rfl i59 rfl rfl rfl rfl ?_)
  refine mv rfl rfl rfl rfl rfl ?_
  refine mv rfl rfl rfl rfl rfl ?_
  obtain ⟨v_14, e_15, h⟩ := bind_some h
  refine sp rfl (OpT.callG (is := [1, 2, 3, 4]) (ph := []) rfl (dl rfl rfl) Try.func87 rfl rfl (Args.cons rfl (Args.cons rfl (Args.cons rfl (Args.cons rfl Args.nil)))) (raddleref11_builder_digit_T K (bx0 := bx0) (wx0c1 := wx0c1) (wx0c2c1 := wx0c2c1) (wx0c2c2 := wx0c2c2) e_15) (.cons rfl rfl (.cons rfl rfl (.cons rfl rfl (.cons rfl rfl (.nil))))) (fun _ => rfl) (fun γ_16 => ?_))
  refine nm (.c (.c (.c (.c (.c (.n)))))) ?_
  refine sp rfl (OpT.int2 rfl rfl (dl rfl rfl) rfl rfl ?_)
  refine asg rfl rfl rfl rfl rfl ?_
  refine TL'.nil (thenS_normal ?_)
  refine T.ret ?_
  exact Fin.doneK (.cons _ _ _ _ (.tmp 8 _ rfl) .nil) (.cons 1 rfl (.cons 1 rfl (.cons 1 rfl (.cons 1 rfl (.nil _))))) (by cases h; exact ⟨gl [γ_16 0, γ_16 1, γ_16 2], rfl, rfl⟩)

abbrev raddleref11_builder_rule_q (bx0 : Nat) (x0 : raddleref11_builder) (r : Int) : Exit → St → Prop := retS Try.prog Try.f51 (fun y t => ∃ γ : Nat → Value, y = (.int .i64 r) ∧ t = [.box bx0 98 (([.d (.sl false 1 (x0.g.First.map (cI .i64))), .d (.sl false 9 (x0.g.P.map c_api_Pos)), .d (.ex (γ 0))] : List OC) ++ ((ArrN.oc 256 .u8 x0.a.Split.Of) ++ (([.d (.int .i64 x0.a.Split.Many), .d (.ex (γ 1)), .d (.ex (γ 2)), .d (.int .i64 x0.e)] : List OC)))), .arrA (γ 0) 3 1 (x0.number.map (cI .i64)), .arrA (γ 1) 42 2 (x0.a.Counts.map (Arr2.dc .i64)), .arrX (γ 2) 59 4 0 (x0.a.States.map c_api_State)])

abbrev raddleref11_builder_rule_qs111 (bx0 : Nat) (x0 : raddleref11_builder) (r : Int) : Exit → St → Prop := thenS (fun s' => T Try.prog 55 (Code.at [1, 1, 1] (codeOf Try.f51)) s' ((raddleref11_builder_rule_q bx0 x0 r))) ((raddleref11_builder_rule_q bx0 x0 r))

abbrev raddleref11_builder_rule_qb0x111 (bx0 : Nat) (x0 : raddleref11_builder) (r : Int) : Exit → St → Prop := inBlockS 0 ((raddleref11_builder_rule_qs111 bx0 x0 r))

abbrev raddleref11_builder_rule_ql11010 (bx0 : Nat) (x0 : raddleref11_builder) (r : Int) : Exit → St → Prop := thenS (fun s' => TL Try.prog 55 (Code.at [1, 1, 0, 1, 0, 0] (codeOf Try.f51)) s' ((raddleref11_builder_rule_qb0x111 bx0 x0 r))) ((raddleref11_builder_rule_qb0x111 bx0 x0 r))

abbrev raddleref11_builder_rule_qs11010011 (bx0 : Nat) (x0 : raddleref11_builder) (r : Int) : Exit → St → Prop := thenS (fun s' => T Try.prog 55 (Code.at [1, 1, 0, 1, 0, 0, 1, 1] (codeOf Try.f51)) s' ((raddleref11_builder_rule_ql11010 bx0 x0 r))) ((raddleref11_builder_rule_ql11010 bx0 x0 r))

abbrev raddleref11_builder_rule_qb1_0x11010011 (bx0 : Nat) (x0 : raddleref11_builder) (r : Int) : Exit → St → Prop := inBlockS 1 ((raddleref11_builder_rule_qs11010011 bx0 x0 r))

abbrev raddleref11_builder_rule_l0_H (bx0 : Nat) (x0 : raddleref11_builder) (r : Int) (go : Int → Int → Int → raddleref11_builder → api_State → Option Int) : Prop := ∀ (x2 : Int) (x7_0_13 : Int) (x8_0_14 : Int) (x0 : raddleref11_builder) (x1 : api_State) (w0_0 : Value) (w0_0a : Value) (w0_0aa : Value) (b4_0 : Nat), go x2 x7_0_13 x8_0_14 x0 x1 = some r → TL Try.prog 55 (Code.at [1, 1, 0, 1, 0, 0] (codeOf Try.f51)) ⟨[(0, .ptr bx0 0), (2, .int .i64 x2), (4, .ptr b4_0 0), (7, .int .i64 x7_0_13), (8, .int .i64 x8_0_14)], [.box bx0 98 (([.d (.sl false 1 (x0.g.First.map (cI .i64))), .d (.sl false 9 (x0.g.P.map c_api_Pos)), .d (.ex w0_0)] : List OC) ++ ((ArrN.oc 256 .u8 x0.a.Split.Of) ++ (([.d (.int .i64 x0.a.Split.Many), .d (.ex w0_0a), .d (.ex w0_0aa), .d (.int .i64 x0.e)] : List OC)))), .arrA w0_0 3 1 (x0.number.map (cI .i64)), .arrA w0_0a 42 2 (x0.a.Counts.map (Arr2.dc .i64)), .arrX w0_0aa 59 4 0 (x0.a.States.map c_api_State), .box b4_0 59 [.d (.sl false 1 (x1.L.map (cI .i64))), .d (.sl false 1 (x1.R.map (cI .i64))), .d (.sl false 1 (x1.Rule.map (cI .i64))), .d (.sl false 1 (x1.Next.map (cL 2 c_api_Move)))]]⟩ (raddleref11_builder_rule_qb0x111 bx0 x0 r)

theorem raddleref11_builder_rule_j1_T {r : Int} (K : Nat) (bx0 : Nat) (x0 : raddleref11_builder) (go0 : Int → Int → Int → raddleref11_builder → api_State → Option Int) (hgo0 : raddleref11_builder_rule_l0_H bx0 x0 r go0) (x2 : Int) (x8_1_13 : Int) (x1 : api_State) (x37_1_26 : Int) (x38_1_27 : Int) (x39_1_28 : Int) (x40_1_29 : Bool) (x43_1_30 : Int) (x44_1_31 : Bool) (x45_1_32 : Bool) (x50_1_33 : Bool) (x0 : raddleref11_builder) (y9_1_14 : Arr4) (y9_1_15 : Int) (y9_1_16 : Int) (y9_1_17 : Int) (y9_1_18 : Bool) (y9_1_19 : List Int) (w0_1 : Value) (w0_1a : Value) (w0_1aa : Value) (b4_1 : Nat) (b9_1 : Nat) (h : raddleref11_builder_rule_j1 K go0 x2 x8_1_13 x1 x37_1_26 x38_1_27 x39_1_28 x40_1_29 x43_1_30 x44_1_31 x45_1_32 x50_1_33 x0 y9_1_14 y9_1_15 y9_1_16 y9_1_17 y9_1_18 y9_1_19 = some r) : T Try.prog 55 (Code.at [1, 1, 0, 1, 0, 0, 1, 0, 0, 1, 1, 0] (codeOf Try.f51)) ⟨[(0, .ptr bx0 0), (2, .int .i64 x2), (4, .ptr b4_1 0), (8, .int .i64 x8_1_13), (9, .ptr b9_1 0), (32, .ptr bx0 0), (33, .agg [.sl false 1 (x1.L.map (cI .i64)), .sl false 1 (x1.R.map (cI .i64)), .sl false 1 (x1.Rule.map (cI .i64)), .sl false 1 (x1.Next.map (cL 2 c_api_Move))]), (34, .int .i64 x2), (35, .ptr b4_1 (0 + 0)), (36, .sl false 1 (x1.L.map (cI .i64))), (37, .int .i64 x37_1_26), (38, .ref [.int .i64 x38_1_27]), (39, .int .i64 x39_1_28), (40, .bool x40_1_29), (43, .int .i64 x43_1_30), (44, .bool x44_1_31), (45, .bool x45_1_32), (50, .bool x50_1_33)], [.box bx0 98 (([.d (.sl false 1 (x0.g.First.map (cI .i64))), .d (.sl false 9 (x0.g.P.map c_api_Pos)), .d (.ex w0_1)] : List OC) ++ ((ArrN.oc 256 .u8 x0.a.Split.Of) ++ (([.d (.int .i64 x0.a.Split.Many), .d (.ex w0_1a), .d (.ex w0_1aa), .d (.int .i64 x0.e)] : List OC)))), .arrA w0_1 3 1 (x0.number.map (cI .i64)), .arrA w0_1a 42 2 (x0.a.Counts.map (Arr2.dc .i64)), .arrX w0_1aa 59 4 0 (x0.a.States.map c_api_State), .box b4_1 59 [.d (.sl false 1 (x1.L.map (cI .i64))), .d (.sl false 1 (x1.R.map (cI .i64))), .d (.sl false 1 (x1.Rule.map (cI .i64))), .d (.sl false 1 (x1.Next.map (cL 2 c_api_Move)))], .box b9_1 104 [.d (.int .u64 y9_1_14.a0), .d (.int .u64 y9_1_14.a1), .d (.int .u64 y9_1_14.a2), .d (.int .u64 y9_1_14.a3), .d (.int .i64 y9_1_15), .d (.int .i64 y9_1_16), .d (.int .i64 y9_1_17), .d (.bool y9_1_18), .d (.sl false 1 (y9_1_19.map (cI .i64)))]]⟩ (raddleref11_builder_rule_qb1_0x11010011 bx0 x0 r) := by
  unfold raddleref11_builder_rule_j1 at h
  refine T.regionL ?_
  refine sp rfl (OpT.fieldPtr rfl (dl rfl rfl) Try.underlying104 rfl i3 (by decide) rfl ?_)
  refine sp rfl (OpT.loadBox (i := 5) rfl (dl rfl rfl) Try.underlying3 rfl rfl rfl rfl ?_)
  refine asg rfl rfl rfl rfl rfl ?_
  refine TL'.nil (inBlock_normal (thenS_normal ?_))
  refine T.regionL ?_
  refine mv rfl rfl rfl rfl rfl ?_
  refine sp rfl (OpT.int2 rfl rfl (dl rfl rfl) rfl rfl ?_)
  refine asg rfl rfl rfl rfl rfl ?_
  refine TL'.nil (thenS_normal ?_)
  refine TL.by_turn ?_ (hgo0 x2 y9_1_17 (IntKind.i64.wrap (x8_1_13 + (1 : Int))) x0 x1 w0_1 w0_1a w0_1aa b4_1 h)
  exact Turn.rp (.cons rfl (.cons rfl (.cons rfl (.cons rfl (.cons rfl (.nil _)))))) (.c .z (.c .z (.c .z (.c .z (.c .z (.n _))))))

theorem raddleref11_builder_rule_l0_T {r : Int} (K : Nat) (bx0 : Nat) (x0 : raddleref11_builder) : ∀ (k : Nat), ∀ (x2 : Int) (x7_0_13 : Int) (x8_0_14 : Int) (x0 : raddleref11_builder) (x1 : api_State) (w0_0 : Value) (w0_0a : Value) (w0_0aa : Value) (b4_0 : Nat), raddleref11_builder_rule_l0 K k x2 x7_0_13 x8_0_14 x0 x1 = some r → TL Try.prog 55 (Code.at [1, 1, 0, 1, 0, 0] (codeOf Try.f51)) ⟨[(0, .ptr bx0 0), (2, .int .i64 x2), (4, .ptr b4_0 0), (7, .int .i64 x7_0_13), (8, .int .i64 x8_0_14)], [.box bx0 98 (([.d (.sl false 1 (x0.g.First.map (cI .i64))), .d (.sl false 9 (x0.g.P.map c_api_Pos)), .d (.ex w0_0)] : List OC) ++ ((ArrN.oc 256 .u8 x0.a.Split.Of) ++ (([.d (.int .i64 x0.a.Split.Many), .d (.ex w0_0a), .d (.ex w0_0aa), .d (.int .i64 x0.e)] : List OC)))), .arrA w0_0 3 1 (x0.number.map (cI .i64)), .arrA w0_0a 42 2 (x0.a.Counts.map (Arr2.dc .i64)), .arrX w0_0aa 59 4 0 (x0.a.States.map c_api_State), .box b4_0 59 [.d (.sl false 1 (x1.L.map (cI .i64))), .d (.sl false 1 (x1.R.map (cI .i64))), .d (.sl false 1 (x1.Rule.map (cI .i64))), .d (.sl false 1 (x1.Next.map (cL 2 c_api_Move)))]]⟩ (raddleref11_builder_rule_qb0x111 bx0 x0 r) := by
  intro k
  induction k with
  | zero =>
    intro x2 x7_0_13 x8_0_14 x0 x1 w0_0 w0_0a w0_0aa b4_0 h
    cases (show (none : Option Int) = some r from h)
  | succ k ih =>
    intro x2 x7_0_13 x8_0_14 x0 x1 w0_0 w0_0a w0_0aa b4_0 h
    rw [raddleref11_builder_rule_l0] at h
    refine TL.round ?_
    refine T.seq ?_
    refine T.seq ?_
    refine T.regionL ?_
    refine mv rfl rfl rfl rfl rfl ?_
    refine sp rfl (OpT.fieldPtr rfl (dl rfl rfl) Try.underlying59 rfl i56 (by decide) rfl ?_)
    refine sp rfl (OpT.loadBox (i := 4) rfl (dl rfl rfl) Try.underlying56 rfl rfl rfl rfl ?_)
    refine sp rfl (OpT.lenSlM (xs := x1.L) (f := (cI .i64)) rfl (dl rfl rfl) Try.underlying56 rfl ?_)
    refine sp rfl (OpT.int2 rfl rfl (dl rfl rfl) rfl rfl ?_)
    refine TL'.nil (thenS_normal ?_)
    rcases bif_some h with ⟨c_230, h⟩ | ⟨c_230, h⟩
    · refine T.condT rfl c_230 ?_
      refine T.skip (thenS_normal ?_)
      refine T.seq ?_
      refine T.block ?_
      refine T.seq ?_
      refine T.by_turn Turn.keepPlace ?_
      refine DGG.start ?_
      refine DGG.step (c := fun γ_231 => ⟨some 17, .ptr bx0 0, [(0, .ptr bx0 0)], [], []⟩) [] (fun _ _ _ => rfl) (fun γ_231 t hm => One.step rfl (.free rfl) (OpT.move rfl (dl rfl rfl) hm.s0 ⟨(fun _ => undef, 0), rfl⟩)) (fun γ_231 => Ct.met_of rfl rfl) ?_
      refine DGG.step (c := fun γ_231 => ⟨some 18, .ptr bx0 0, [(17, .ptr bx0 0)], [], []⟩) [] (fun _ _ _ => rfl) (fun γ_231 t hm => One.step rfl (.free rfl) (OpT.nilCheck rfl (dl rfl rfl) hm.s0 rfl ⟨(fun _ => undef, 0), rfl⟩)) (fun γ_231 => Ct.met_of rfl rfl) ?_
      refine DGG.step (c := fun γ_231 => ⟨some 19, .ptr bx0 (0 + 0), [(18, .ptr bx0 0)], [], []⟩) [] (fun _ _ _ => rfl) (fun γ_231 t hm => One.step rfl (.free rfl) (OpT.fieldPtr rfl (dl rfl rfl) Try.underlying98 rfl i71 (by decide) hm.s0 ⟨(fun _ => undef, 0), rfl⟩)) (fun γ_231 => Ct.met_of rfl rfl) ?_
      refine DGG.step (c := fun γ_231 => ⟨some 20, .ptr bx0 (0 + 0 + 1), [(19, .ptr bx0 (0 + 0))], [], []⟩) [] (fun _ _ _ => rfl) (fun γ_231 t hm => One.step rfl (.free rfl) (OpT.fieldPtr rfl (dl rfl rfl) Try.underlying71 rfl i69 (by decide) hm.s0 ⟨(fun _ => undef, 0), rfl⟩)) (fun γ_231 => Ct.met_of rfl rfl) ?_
      refine DGG.step (c := fun γ_231 => ⟨some 21, .sl false 9 (x0.g.P.map c_api_Pos), [(20, .ptr bx0 (0 + 0 + 1))], [(1, .box bx0 98 (([.d (.sl false 1 (x0.g.First.map (cI .i64))), .d (.sl false 9 (x0.g.P.map c_api_Pos)), .d (.ex w0_0)] : List OC) ++ ((ArrN.oc 256 .u8 x0.a.Split.Of) ++ (([.d (.int .i64 x0.a.Split.Many), .d (.ex w0_0a), .d (.ex w0_0aa), .d (.int .i64 x0.e)] : List OC)))))], []⟩) [] (fun _ _ _ => rfl) (fun γ_231 t hm => One.step rfl (.free rfl) (OpT.loadBox (i := 1) rfl (dl rfl rfl) Try.underlying69 rfl hm.s0 hm.o0 rfl ⟨(fun _ => undef, 0), rfl⟩)) (fun γ_231 => Ct.met_of rfl rfl) ?_
      refine DGG.step (c := fun γ_231 => ⟨some 22, .ptr b4_0 (0 + 0), [(4, .ptr b4_0 0)], [], []⟩) [] (fun _ _ _ => rfl) (fun γ_231 t hm => One.step rfl (.free rfl) (OpT.fieldPtr rfl (dl rfl rfl) Try.underlying59 rfl i56 (by decide) hm.s0 ⟨(fun _ => undef, 0), rfl⟩)) (fun γ_231 => Ct.met_of rfl rfl) ?_
      refine DGG.step (c := fun γ_231 => ⟨some 23, .sl false 1 (x1.L.map (cI .i64)), [(22, .ptr b4_0 (0 + 0))], [(5, .box b4_0 59 [.d (.sl false 1 (x1.L.map (cI .i64))), .d (.sl false 1 (x1.R.map (cI .i64))), .d (.sl false 1 (x1.Rule.map (cI .i64))), .d (.sl false 1 (x1.Next.map (cL 2 c_api_Move)))])], []⟩) [] (fun _ _ _ => rfl) (fun γ_231 t hm => One.step rfl (.free rfl) (OpT.loadBox (i := 5) rfl (dl rfl rfl) Try.underlying56 rfl hm.s0 hm.o0 rfl ⟨(fun _ => undef, 0), rfl⟩)) (fun γ_231 => Ct.met_of rfl rfl) ?_
      refine DGG.step (c := fun γ_231 => ⟨some 24, .int .i64 x8_0_14, [(8, .int .i64 x8_0_14)], [], []⟩) [] (fun _ _ _ => rfl) (fun γ_231 t hm => One.step rfl (.free rfl) (OpT.move rfl (dl rfl rfl) hm.s0 ⟨(fun _ => undef, 0), rfl⟩)) (fun γ_231 => Ct.met_of rfl rfl) ?_
      obtain ⟨v_237, e_238, h⟩ := bind_some h
      refine DGG.step (c := fun γ_231 => ⟨some 25, .ref [.int .i64 v_237], [(23, .sl false 1 (x1.L.map (cI .i64))), (24, .int .i64 x8_0_14)], [], []⟩) [] (fun _ _ _ => rfl) (fun γ_231 t hm => One.step rfl (.free rfl) (OpT.indexSlM (xs := x1.L) (f := (cI .i64)) (v := v_237) rfl (dl rfl rfl) Try.underlying56 i3 hm.s0 hm.s1 e_238 ⟨(fun _ => undef, 0), rfl⟩)) (fun γ_231 => Ct.met_of rfl rfl) ?_
      refine DGG.step (c := fun γ_231 => ⟨some 26, .int .i64 v_237, [(25, .ref [.int .i64 v_237])], [], []⟩) [] (fun _ _ _ => rfl) (fun γ_231 t hm => One.step rfl (.free rfl) (OpT.loadRef rfl (dl rfl rfl) Try.underlying3 rfl hm.s0 rfl ⟨(fun _ => undef, 0), rfl⟩)) (fun γ_231 => Ct.met_of rfl rfl) ?_
      obtain ⟨v_239, e_240, h⟩ := bind_some h
      refine DGG.step (c := fun γ_231 => ⟨some 27, .ref [.int .u64 v_239.S.a0, .int .u64 v_239.S.a1, .int .u64 v_239.S.a2, .int .u64 v_239.S.a3, .int .i64 v_239.Lo, .int .i64 v_239.Hi, .int .i64 v_239.Rule, .bool v_239.Last, .sl false 1 (v_239.Next.map (cI .i64))], [(21, .sl false 9 (x0.g.P.map c_api_Pos)), (26, .int .i64 v_237)], [], []⟩) [] (fun _ _ _ => rfl) (fun γ_231 t hm => One.step rfl (.free rfl) (OpT.indexSlM (xs := x0.g.P) (f := c_api_Pos) (v := v_239) rfl (dl rfl rfl) Try.underlying69 i104 hm.s0 hm.s1 e_240 ⟨(fun _ => undef, 0), rfl⟩)) (fun γ_231 => Ct.met_of rfl rfl) ?_
      refine DGG.step (c := fun γ_231 => ⟨some 28, .agg [.int .u64 v_239.S.a0, .int .u64 v_239.S.a1, .int .u64 v_239.S.a2, .int .u64 v_239.S.a3, .int .i64 v_239.Lo, .int .i64 v_239.Hi, .int .i64 v_239.Rule, .bool v_239.Last, .sl false 1 (v_239.Next.map (cI .i64))], [(27, .ref [.int .u64 v_239.S.a0, .int .u64 v_239.S.a1, .int .u64 v_239.S.a2, .int .u64 v_239.S.a3, .int .i64 v_239.Lo, .int .i64 v_239.Hi, .int .i64 v_239.Rule, .bool v_239.Last, .sl false 1 (v_239.Next.map (cI .i64))])], [], []⟩) [] (fun _ _ _ => rfl) (fun γ_231 t hm => One.step rfl (.free rfl) (OpT.loadRefAgg rfl (dl rfl rfl) Try.underlying104 rfl i104 hm.s0 (Nat.le_of_ble_eq_true rfl) ⟨(fun _ => undef, 0), rfl⟩)) (fun γ_231 => Ct.met_of rfl rfl) ?_
      refine DGG.step (c := fun γ_231 => ⟨some 9, .ptr ((γ_231 12).2) 0, [], [(0, .ro 0 [])], [(0, .box ((γ_231 12).2) 104 [.d (.int .u64 (Arr4.mk 0 0 0 0).a0), .d (.int .u64 (Arr4.mk 0 0 0 0).a1), .d (.int .u64 (Arr4.mk 0 0 0 0).a2), .d (.int .u64 (Arr4.mk 0 0 0 0).a3), .d (.int .i64 (0 : Int)), .d (.int .i64 (0 : Int)), .d (.int .i64 (0 : Int)), .d (.bool false), .d (.ex (.slice none 0 0))])]⟩) [12] (fun γ_231 γ' h => by simp only [h 12 (by decide)]) (fun γ_231 t hm => One.step rfl (.free rfl) (OpT.allocAt 0 rfl (dl rfl rfl) i104 rfl hm.o0 (fun b => ⟨(fun _ => undef, b), rfl⟩))) (fun γ_231 => Ct.met_of rfl rfl) ?_
      refine DGG.step (c := fun γ_231 => ⟨none, .any, [(9, .ptr ((γ_231 12).2) 0), (28, .agg [.int .u64 v_239.S.a0, .int .u64 v_239.S.a1, .int .u64 v_239.S.a2, .int .u64 v_239.S.a3, .int .i64 v_239.Lo, .int .i64 v_239.Hi, .int .i64 v_239.Rule, .bool v_239.Last, .sl false 1 (v_239.Next.map (cI .i64))])], [(0, .box ((γ_231 12).2) 104 [.d (.int .u64 (Arr4.mk 0 0 0 0).a0), .d (.int .u64 (Arr4.mk 0 0 0 0).a1), .d (.int .u64 (Arr4.mk 0 0 0 0).a2), .d (.int .u64 (Arr4.mk 0 0 0 0).a3), .d (.int .i64 (0 : Int)), .d (.int .i64 (0 : Int)), .d (.int .i64 (0 : Int)), .d (.bool false), .d (.ex (.slice none 0 0))])], [(0, .box ((γ_231 12).2) 104 [.d (.int .u64 v_239.S.a0), .d (.int .u64 v_239.S.a1), .d (.int .u64 v_239.S.a2), .d (.int .u64 v_239.S.a3), .d (.int .i64 v_239.Lo), .d (.int .i64 v_239.Hi), .d (.int .i64 v_239.Rule), .d (.bool v_239.Last), .d (.sl false 1 (v_239.Next.map (cI .i64)))])]⟩) [12] (fun γ_231 γ' h => by simp only [h 12 (by decide)]) (fun γ_231 t hm => One.step rfl (.free rfl) (OpT.storeAggTo (i := 0) (cells' := [.d (.int .u64 v_239.S.a0), .d (.int .u64 v_239.S.a1), .d (.int .u64 v_239.S.a2), .d (.int .u64 v_239.S.a3), .d (.int .i64 v_239.Lo), .d (.int .i64 v_239.Hi), .d (.int .i64 v_239.Rule), .d (.bool v_239.Last), .d (.sl false 1 (v_239.Next.map (cI .i64)))]) rfl rfl i104 hm.s0 hm.s1 rfl hm.o0 (Nat.le_of_ble_eq_true rfl) rfl ⟨(fun _ => undef, 0), rfl⟩)) (fun γ_231 => Ct.met_of rfl rfl) ?_
      refine DGG.fin (s1 := fun γ_231 => ⟨[(0, .ptr bx0 0), (2, .int .i64 x2), (4, .ptr b4_0 0), (7, .int .i64 x7_0_13), (8, .int .i64 x8_0_14), (9, .ptr ((γ_231 12).2) 0)], [.box ((γ_231 12).2) 104 [.d (.int .u64 v_239.S.a0), .d (.int .u64 v_239.S.a1), .d (.int .u64 v_239.S.a2), .d (.int .u64 v_239.S.a3), .d (.int .i64 v_239.Lo), .d (.int .i64 v_239.Hi), .d (.int .i64 v_239.Rule), .d (.bool v_239.Last), .d (.sl false 1 (v_239.Next.map (cI .i64)))], .box bx0 98 (([.d (.sl false 1 (x0.g.First.map (cI .i64))), .d (.sl false 9 (x0.g.P.map c_api_Pos)), .d (.ex w0_0)] : List OC) ++ ((ArrN.oc 256 .u8 x0.a.Split.Of) ++ (([.d (.int .i64 x0.a.Split.Many), .d (.ex w0_0a), .d (.ex w0_0aa), .d (.int .i64 x0.e)] : List OC)))), .arrA w0_0 3 1 (x0.number.map (cI .i64)), .arrA w0_0a 42 2 (x0.a.Counts.map (Arr2.dc .i64)), .arrX w0_0aa 59 4 0 (x0.a.States.map c_api_State), .box b4_0 59 [.d (.sl false 1 (x1.L.map (cI .i64))), .d (.sl false 1 (x1.R.map (cI .i64))), .d (.sl false 1 (x1.Rule.map (cI .i64))), .d (.sl false 1 (x1.Next.map (cL 2 c_api_Move)))]]⟩) (ms := [0, 1, 3, 7, 15, 0, 32, 0, 224, 480, 1023, 2047, 0, 8191]) TryMixed rfl (by kernel_rfl) (by kernel_rfl) (by kernel_rfl) (fun γ_231 => by kernel_rfl) (fun γ_231 => .cons rfl (.cons rfl (.cons rfl (.cons rfl (.cons rfl (.cons rfl (.nil _))))))) (fun _ => rfl) (fun γ_231 u hu => (thenS_normal (T.by_turn hu ?_)))
      refine T.seq ?_
      refine DGG.start ?_
      refine DGG.step (c := fun γ_241 => ⟨some 29, .ptr ((γ_231 12).2) (0 + 7), [(9, .ptr ((γ_231 12).2) 0)], [], []⟩) [] (fun _ _ _ => rfl) (fun γ_241 t hm => One.step rfl (.free rfl) (OpT.fieldPtr rfl (dl rfl rfl) Try.underlying104 rfl i4 (by decide) hm.s0 ⟨(fun _ => undef, 0), rfl⟩)) (fun γ_241 => Ct.met_of rfl rfl) ?_
      refine DGG.step (c := fun γ_241 => ⟨some 30, .bool v_239.Last, [(29, .ptr ((γ_231 12).2) (0 + 7))], [(0, .box ((γ_231 12).2) 104 [.d (.int .u64 v_239.S.a0), .d (.int .u64 v_239.S.a1), .d (.int .u64 v_239.S.a2), .d (.int .u64 v_239.S.a3), .d (.int .i64 v_239.Lo), .d (.int .i64 v_239.Hi), .d (.int .i64 v_239.Rule), .d (.bool v_239.Last), .d (.sl false 1 (v_239.Next.map (cI .i64)))])], []⟩) [] (fun _ _ _ => rfl) (fun γ_241 t hm => One.step rfl (.free rfl) (OpT.loadBox (i := 0) rfl (dl rfl rfl) Try.underlying4 rfl hm.s0 hm.o0 rfl ⟨(fun _ => undef, 0), rfl⟩)) (fun γ_241 => Ct.met_of rfl rfl) ?_
      refine DGG.step (c := fun γ_241 => ⟨some 31, .bool v_239.Last, [(30, .bool v_239.Last)], [], []⟩) [] (fun _ _ _ => rfl) (fun γ_241 t hm => One.step rfl (.free rfl) (OpT.move rfl (dl rfl rfl) hm.s0 ⟨(fun _ => undef, 0), rfl⟩)) (fun γ_241 => Ct.met_of rfl rfl) ?_
      rcases bif_some h with ⟨c_247, h⟩ | ⟨c_247, h⟩
      · refine DGG.step (c := fun γ_241 => ⟨some 32, .ptr bx0 0, [(0, .ptr bx0 0), (31, .bool v_239.Last)], [], []⟩) [] (fun _ _ _ => rfl) (fun γ_241 t hm => One.step rfl (.on rfl rfl hm.s1 c_247) (OpT.move rfl (dl rfl rfl) hm.s0 ⟨(fun _ => undef, 0), rfl⟩)) (fun γ_241 => Ct.met_of rfl rfl) ?_
        refine DGG.step (c := fun γ_241 => ⟨some 33, .agg [.sl false 1 (x1.L.map (cI .i64)), .sl false 1 (x1.R.map (cI .i64)), .sl false 1 (x1.Rule.map (cI .i64)), .sl false 1 (x1.Next.map (cL 2 c_api_Move))], [(4, .ptr b4_0 0), (31, .bool v_239.Last)], [(5, .box b4_0 59 [.d (.sl false 1 (x1.L.map (cI .i64))), .d (.sl false 1 (x1.R.map (cI .i64))), .d (.sl false 1 (x1.Rule.map (cI .i64))), .d (.sl false 1 (x1.Next.map (cL 2 c_api_Move)))])], []⟩) [] (fun _ _ _ => rfl) (fun γ_241 t hm => One.step rfl (.on rfl rfl hm.s1 c_247) (OpT.loadBoxAgg (i := 5) (l := [.sl false 1 (x1.L.map (cI .i64)), .sl false 1 (x1.R.map (cI .i64)), .sl false 1 (x1.Rule.map (cI .i64)), .sl false 1 (x1.Next.map (cL 2 c_api_Move))]) rfl (dl rfl rfl) Try.underlying59 rfl i59 hm.s0 hm.o0 rfl rfl ⟨(fun _ => undef, 0), rfl⟩)) (fun γ_241 => Ct.met_of rfl rfl) ?_
        refine DGG.step (c := fun γ_241 => ⟨some 34, .int .i64 x2, [(2, .int .i64 x2), (31, .bool v_239.Last)], [], []⟩) [] (fun _ _ _ => rfl) (fun γ_241 t hm => One.step rfl (.on rfl rfl hm.s1 c_247) (OpT.move rfl (dl rfl rfl) hm.s0 ⟨(fun _ => undef, 0), rfl⟩)) (fun γ_241 => Ct.met_of rfl rfl) ?_
        refine DGG.step (c := fun γ_241 => ⟨some 35, .ptr b4_0 (0 + 0), [(4, .ptr b4_0 0), (31, .bool v_239.Last)], [], []⟩) [] (fun _ _ _ => rfl) (fun γ_241 t hm => One.step rfl (.on rfl rfl hm.s1 c_247) (OpT.fieldPtr rfl (dl rfl rfl) Try.underlying59 rfl i56 (by decide) hm.s0 ⟨(fun _ => undef, 0), rfl⟩)) (fun γ_241 => Ct.met_of rfl rfl) ?_
        refine DGG.step (c := fun γ_241 => ⟨some 36, .sl false 1 (x1.L.map (cI .i64)), [(35, .ptr b4_0 (0 + 0)), (31, .bool v_239.Last)], [(5, .box b4_0 59 [.d (.sl false 1 (x1.L.map (cI .i64))), .d (.sl false 1 (x1.R.map (cI .i64))), .d (.sl false 1 (x1.Rule.map (cI .i64))), .d (.sl false 1 (x1.Next.map (cL 2 c_api_Move)))])], []⟩) [] (fun _ _ _ => rfl) (fun γ_241 t hm => One.step rfl (.on rfl rfl hm.s1 c_247) (OpT.loadBox (i := 5) rfl (dl rfl rfl) Try.underlying56 rfl hm.s0 hm.o0 rfl ⟨(fun _ => undef, 0), rfl⟩)) (fun γ_241 => Ct.met_of rfl rfl) ?_
        refine DGG.step (c := fun γ_241 => ⟨some 37, .int .i64 x8_0_14, [(8, .int .i64 x8_0_14), (31, .bool v_239.Last)], [], []⟩) [] (fun _ _ _ => rfl) (fun γ_241 t hm => One.step rfl (.on rfl rfl hm.s1 c_247) (OpT.move rfl (dl rfl rfl) hm.s0 ⟨(fun _ => undef, 0), rfl⟩)) (fun γ_241 => Ct.met_of rfl rfl) ?_
        refine DGG.step (c := fun γ_241 => ⟨some 38, .ref [.int .i64 v_237], [(36, .sl false 1 (x1.L.map (cI .i64))), (37, .int .i64 x8_0_14), (31, .bool v_239.Last)], [], []⟩) [] (fun _ _ _ => rfl) (fun γ_241 t hm => One.step rfl (.on rfl rfl hm.s2 c_247) (OpT.indexSlM (xs := x1.L) (f := (cI .i64)) (v := v_237) rfl (dl rfl rfl) Try.underlying56 i3 hm.s0 hm.s1 e_238 ⟨(fun _ => undef, 0), rfl⟩)) (fun γ_241 => Ct.met_of rfl rfl) ?_
        refine DGG.step (c := fun γ_241 => ⟨some 39, .int .i64 v_237, [(38, .ref [.int .i64 v_237]), (31, .bool v_239.Last)], [], []⟩) [] (fun _ _ _ => rfl) (fun γ_241 t hm => One.step rfl (.on rfl rfl hm.s1 c_247) (OpT.loadRef rfl (dl rfl rfl) Try.underlying3 rfl hm.s0 rfl ⟨(fun _ => undef, 0), rfl⟩)) (fun γ_241 => Ct.met_of rfl rfl) ?_
        obtain ⟨v_248, e_249, h⟩ := bind_some h
        refine DGG.step (c := fun γ_241 => ⟨some 40, .bool v_248, [(32, .ptr bx0 0), (33, .agg [.sl false 1 (x1.L.map (cI .i64)), .sl false 1 (x1.R.map (cI .i64)), .sl false 1 (x1.Rule.map (cI .i64)), .sl false 1 (x1.Next.map (cL 2 c_api_Move))]), (34, .int .i64 x2), (39, .int .i64 v_237), (31, .bool v_239.Last)], [(4, .arrX w0_0aa 59 4 0 (x0.a.States.map c_api_State)), (3, .arrA w0_0a 42 2 (x0.a.Counts.map (Arr2.dc .i64))), (2, .arrA w0_0 3 1 (x0.number.map (cI .i64))), (1, .box bx0 98 (([.d (.sl false 1 (x0.g.First.map (cI .i64))), .d (.sl false 9 (x0.g.P.map c_api_Pos)), .d (.ex w0_0)] : List OC) ++ ((ArrN.oc 256 .u8 x0.a.Split.Of) ++ (([.d (.int .i64 x0.a.Split.Many), .d (.ex w0_0a), .d (.ex w0_0aa), .d (.int .i64 x0.e)] : List OC)))))], [(1, .box bx0 98 (([.d (.sl false 1 (x0.g.First.map (cI .i64))), .d (.sl false 9 (x0.g.P.map c_api_Pos)), .d (.ex ((γ_241 11).1 0))] : List OC) ++ ((ArrN.oc 256 .u8 x0.a.Split.Of) ++ (([.d (.int .i64 x0.a.Split.Many), .d (.ex ((γ_241 11).1 1)), .d (.ex ((γ_241 11).1 2)), .d (.int .i64 x0.e)] : List OC))))), (2, .arrA ((γ_241 11).1 0) 3 1 (x0.number.map (cI .i64))), (3, .arrA ((γ_241 11).1 1) 42 2 (x0.a.Counts.map (Arr2.dc .i64))), (4, .arrX ((γ_241 11).1 2) 59 4 0 (x0.a.States.map c_api_State))]⟩) [11] (fun γ_241 γ' h => by simp only [h 11 (by decide)]) (fun γ_241 t hm => One.step rfl (.on rfl rfl (hm.slots (31, _) (.tail _ (.tail _ (.tail _ (.tail _ (.head _)))))) c_247) (OpT.callG (is := [1, 2, 3, 4]) (ph := []) rfl (dl rfl rfl) Try.func70 rfl rfl (Args.cons hm.s0 (Args.cons hm.s1 (Args.cons hm.s2 (Args.cons hm.s3 Args.nil)))) (raddleref11_builder_ripe_T K (bx0 := bx0) (wx0c1 := w0_0) (wx0c2c1 := w0_0a) (wx0c2c2 := w0_0aa) e_249) (.cons (hm.objs (1, _) (.tail _ (.tail _ (.tail _ (.head _))))) rfl (.cons hm.o2 rfl (.cons hm.o1 rfl (.cons hm.o0 rfl (.nil))))) (fun _ => rfl) (fun g => ⟨(g, 0), rfl⟩))) (fun γ_241 => Ct.met_of rfl rfl) ?_
        refine DGG.step (c := fun γ_241 => ⟨some 41, .bool v_248, [(31, .bool v_239.Last), (40, .bool v_248)], [], []⟩) [] (fun _ _ _ => rfl) (fun γ_241 t hm => One.step rfl (.free rfl) (OpT.pickT rfl (dl rfl rfl) hm.s0 c_247 hm.s1 ⟨(fun _ => undef, 0), rfl⟩)) (fun γ_241 => Ct.met_of rfl rfl) ?_
        refine DGG.step (c := fun γ_241 => ⟨some 42, .bool v_248, [(41, .bool v_248)], [], []⟩) [] (fun _ _ _ => rfl) (fun γ_241 t hm => One.step rfl (.free rfl) (OpT.move rfl (dl rfl rfl) hm.s0 ⟨(fun _ => undef, 0), rfl⟩)) (fun γ_241 => Ct.met_of rfl rfl) ?_
        rcases bif_some h with ⟨c_250, h⟩ | ⟨c_250, h⟩
        · refine DGG.step (c := fun γ_241 => ⟨some 43, .int .i64 x7_0_13, [(7, .int .i64 x7_0_13), (42, .bool v_248)], [], []⟩) [] (fun _ _ _ => rfl) (fun γ_241 t hm => One.step rfl (.on rfl rfl hm.s1 c_250) (OpT.move rfl (dl rfl rfl) hm.s0 ⟨(fun _ => undef, 0), rfl⟩)) (fun γ_241 => Ct.met_of rfl rfl) ?_
          refine DGG.step (c := fun γ_241 => ⟨some 44, .bool (decide (x7_0_13 < (0 : Int))), [(43, .int .i64 x7_0_13), (42, .bool v_248)], [], []⟩) [] (fun _ _ _ => rfl) (fun γ_241 t hm => One.step rfl (.on rfl rfl hm.s1 c_250) (OpT.int2 rfl rfl (dl rfl rfl) hm.s0 rfl ⟨(fun _ => undef, 0), rfl⟩)) (fun γ_241 => Ct.met_of rfl rfl) ?_
          refine DGG.step (c := fun γ_241 => ⟨some 45, .bool (decide (x7_0_13 < (0 : Int))), [(44, .bool (decide (x7_0_13 < (0 : Int)))), (42, .bool v_248)], [], []⟩) [] (fun _ _ _ => rfl) (fun γ_241 t hm => One.step rfl (.on rfl rfl hm.s1 c_250) (OpT.move rfl (dl rfl rfl) hm.s0 ⟨(fun _ => undef, 0), rfl⟩)) (fun γ_241 => Ct.met_of rfl rfl) ?_
          rcases bif_some h with ⟨c_251, h⟩ | ⟨c_251, h⟩
          · refine DGG.off c_251 rfl rfl rfl rfl rfl (fun _ => rfl) ?_
            refine DGG.off c_251 rfl rfl rfl rfl rfl (fun _ => rfl) ?_
            refine DGG.off c_251 rfl rfl rfl rfl rfl (fun _ => rfl) ?_
            refine DGG.off c_251 rfl rfl rfl rfl rfl (fun _ => rfl) ?_
            refine DGG.step (c := fun γ_241 => ⟨some 50, .bool true, [(45, .bool (decide (x7_0_13 < (0 : Int)))), (42, .bool v_248)], [], []⟩) [] (fun _ _ _ => rfl) (fun γ_241 t hm => One.step rfl (.on rfl rfl hm.s1 c_250) (OpT.pickT rfl (dl rfl rfl) hm.s0 c_251 rfl ⟨(fun _ => undef, 0), rfl⟩)) (fun γ_241 => Ct.met_of rfl rfl) ?_
            refine DGG.step (c := fun γ_241 => ⟨some 51, .bool true, [(42, .bool v_248), (50, .bool true)], [], []⟩) [] (fun _ _ _ => rfl) (fun γ_241 t hm => One.step rfl (.free rfl) (OpT.pickT rfl (dl rfl rfl) hm.s0 c_250 hm.s1 ⟨(fun _ => undef, 0), rfl⟩)) (fun γ_241 => Ct.met_of rfl rfl) ?_
            refine DGG.fin (s1 := fun γ_241 => ⟨[(0, .ptr bx0 0), (2, .int .i64 x2), (4, .ptr b4_0 0), (7, .int .i64 x7_0_13), (8, .int .i64 x8_0_14), (9, .ptr ((γ_231 12).2) 0), (32, .ptr bx0 0), (33, .agg [.sl false 1 (x1.L.map (cI .i64)), .sl false 1 (x1.R.map (cI .i64)), .sl false 1 (x1.Rule.map (cI .i64)), .sl false 1 (x1.Next.map (cL 2 c_api_Move))]), (34, .int .i64 x2), (35, .ptr b4_0 (0 + 0)), (36, .sl false 1 (x1.L.map (cI .i64))), (37, .int .i64 x8_0_14), (38, .ref [.int .i64 v_237]), (39, .int .i64 v_237), (40, .bool v_248), (43, .int .i64 x7_0_13), (44, .bool (decide (x7_0_13 < (0 : Int)))), (45, .bool (decide (x7_0_13 < (0 : Int)))), (46, .tup []), (47, .tup []), (48, .tup []), (49, .tup []), (50, .bool true), (51, .bool true)], [.box ((γ_231 12).2) 104 [.d (.int .u64 v_239.S.a0), .d (.int .u64 v_239.S.a1), .d (.int .u64 v_239.S.a2), .d (.int .u64 v_239.S.a3), .d (.int .i64 v_239.Lo), .d (.int .i64 v_239.Hi), .d (.int .i64 v_239.Rule), .d (.bool v_239.Last), .d (.sl false 1 (v_239.Next.map (cI .i64)))], .box bx0 98 (([.d (.sl false 1 (x0.g.First.map (cI .i64))), .d (.sl false 9 (x0.g.P.map c_api_Pos)), .d (.ex ((γ_241 11).1 0))] : List OC) ++ ((ArrN.oc 256 .u8 x0.a.Split.Of) ++ (([.d (.int .i64 x0.a.Split.Many), .d (.ex ((γ_241 11).1 1)), .d (.ex ((γ_241 11).1 2)), .d (.int .i64 x0.e)] : List OC)))), .arrA ((γ_241 11).1 0) 3 1 (x0.number.map (cI .i64)), .arrA ((γ_241 11).1 1) 42 2 (x0.a.Counts.map (Arr2.dc .i64)), .arrX ((γ_241 11).1 2) 59 4 0 (x0.a.States.map c_api_State), .box b4_0 59 [.d (.sl false 1 (x1.L.map (cI .i64))), .d (.sl false 1 (x1.R.map (cI .i64))), .d (.sl false 1 (x1.Rule.map (cI .i64))), .d (.sl false 1 (x1.Next.map (cL 2 c_api_Move)))]]⟩) (ms := [0, 1, 3, 7, 7, 7, 7, 71, 7, 455, 967, 2047, 4095, 8191, 16383, 32767, 65535, 131071, 262143, 131071, 1048575, 2097151, 4194303]) TryMixed rfl (by kernel_rfl) (by kernel_rfl) (by kernel_rfl) (fun γ_241 => by kernel_rfl) (fun γ_241 => .cons rfl (.cons rfl (.cons rfl (.cons rfl (.cons rfl (.cons rfl (.cons rfl (.cons rfl (.cons rfl (.cons rfl (.cons rfl (.cons rfl (.cons rfl (.cons rfl (.cons rfl (.cons rfl (.cons rfl (.cons rfl (.cons rfl (.cons rfl (.cons rfl (.cons rfl (.cons rfl (.cons rfl (.nil _))))))))))))))))))))))))) (fun _ => rfl) (fun γ_241 u hu => (thenS_normal (T.by_turn hu ?_)))
            refine T.condT rfl rfl ?_
            refine T.by_turn ?_ (raddleref11_builder_rule_j1_T K bx0 x0 (raddleref11_builder_rule_l0 K k) ih x2 x8_0_14 x1 x8_0_14 v_237 v_237 v_248 x7_0_13 (decide (x7_0_13 < (0 : Int))) (decide (x7_0_13 < (0 : Int))) true x0 v_239.S v_239.Lo v_239.Hi v_239.Rule v_239.Last v_239.Next ((γ_241 11).1 0) ((γ_241 11).1 1) ((γ_241 11).1 2) b4_0 ((γ_231 12).2) h)
            exact Turn.rp (.cons rfl (.cons rfl (.cons rfl (.cons rfl (.cons rfl (.cons rfl (.cons rfl (.cons rfl (.cons rfl (.cons rfl (.cons rfl (.cons rfl (.cons rfl (.cons rfl (.cons rfl (.cons rfl (.cons rfl (.cons rfl (.nil _))))))))))))))))))) (.c (.s .z) (.c (.s .z) (.c (.s .z) (.c (.s .z) (.c (.s .z) (.c .z (.n _)))))))
          · refine DGG.step (c := fun γ_241 => ⟨some 46, .ptr ((γ_231 12).2) (0 + 6), [(9, .ptr ((γ_231 12).2) 0), (45, .bool (decide (x7_0_13 < (0 : Int))))], [], []⟩) [] (fun _ _ _ => rfl) (fun γ_241 t hm => One.step rfl (.on rfl rfl hm.s1 c_251) (OpT.fieldPtr rfl (dl rfl rfl) Try.underlying104 rfl i3 (by decide) hm.s0 ⟨(fun _ => undef, 0), rfl⟩)) (fun γ_241 => Ct.met_of rfl rfl) ?_
            refine DGG.step (c := fun γ_241 => ⟨some 47, .int .i64 v_239.Rule, [(46, .ptr ((γ_231 12).2) (0 + 6)), (45, .bool (decide (x7_0_13 < (0 : Int))))], [(0, .box ((γ_231 12).2) 104 [.d (.int .u64 v_239.S.a0), .d (.int .u64 v_239.S.a1), .d (.int .u64 v_239.S.a2), .d (.int .u64 v_239.S.a3), .d (.int .i64 v_239.Lo), .d (.int .i64 v_239.Hi), .d (.int .i64 v_239.Rule), .d (.bool v_239.Last), .d (.sl false 1 (v_239.Next.map (cI .i64)))])], []⟩) [] (fun _ _ _ => rfl) (fun γ_241 t hm => One.step rfl (.on rfl rfl hm.s1 c_251) (OpT.loadBox (i := 0) rfl (dl rfl rfl) Try.underlying3 rfl hm.s0 hm.o0 rfl ⟨(fun _ => undef, 0), rfl⟩)) (fun γ_241 => Ct.met_of rfl rfl) ?_
            refine DGG.step (c := fun γ_241 => ⟨some 48, .int .i64 x7_0_13, [(7, .int .i64 x7_0_13), (45, .bool (decide (x7_0_13 < (0 : Int))))], [], []⟩) [] (fun _ _ _ => rfl) (fun γ_241 t hm => One.step rfl (.on rfl rfl hm.s1 c_251) (OpT.move rfl (dl rfl rfl) hm.s0 ⟨(fun _ => undef, 0), rfl⟩)) (fun γ_241 => Ct.met_of rfl rfl) ?_
            refine DGG.step (c := fun γ_241 => ⟨some 49, .bool (decide (v_239.Rule < x7_0_13)), [(47, .int .i64 v_239.Rule), (48, .int .i64 x7_0_13), (45, .bool (decide (x7_0_13 < (0 : Int))))], [], []⟩) [] (fun _ _ _ => rfl) (fun γ_241 t hm => One.step rfl (.on rfl rfl hm.s2 c_251) (OpT.int2 rfl rfl (dl rfl rfl) hm.s0 hm.s1 ⟨(fun _ => undef, 0), rfl⟩)) (fun γ_241 => Ct.met_of rfl rfl) ?_
            refine DGG.step (c := fun γ_241 => ⟨some 50, .bool (decide (v_239.Rule < x7_0_13)), [(45, .bool (decide (x7_0_13 < (0 : Int)))), (49, .bool (decide (v_239.Rule < x7_0_13))), (42, .bool v_248)], [], []⟩) [] (fun _ _ _ => rfl) (fun γ_241 t hm => One.step rfl (.on rfl rfl hm.s2 c_250) (OpT.pickF rfl (dl rfl rfl) hm.s0 c_251 hm.s1 ⟨(fun _ => undef, 0), rfl⟩)) (fun γ_241 => Ct.met_of rfl rfl) ?_
            refine DGG.step (c := fun γ_241 => ⟨some 51, .bool (decide (v_239.Rule < x7_0_13)), [(42, .bool v_248), (50, .bool (decide (v_239.Rule < x7_0_13)))], [], []⟩) [] (fun _ _ _ => rfl) (fun γ_241 t hm => One.step rfl (.free rfl) (OpT.pickT rfl (dl rfl rfl) hm.s0 c_250 hm.s1 ⟨(fun _ => undef, 0), rfl⟩)) (fun γ_241 => Ct.met_of rfl rfl) ?_
            refine DGG.fin (s1 := fun γ_241 => ⟨[(0, .ptr bx0 0), (2, .int .i64 x2), (4, .ptr b4_0 0), (7, .int .i64 x7_0_13), (8, .int .i64 x8_0_14), (9, .ptr ((γ_231 12).2) 0), (32, .ptr bx0 0), (33, .agg [.sl false 1 (x1.L.map (cI .i64)), .sl false 1 (x1.R.map (cI .i64)), .sl false 1 (x1.Rule.map (cI .i64)), .sl false 1 (x1.Next.map (cL 2 c_api_Move))]), (34, .int .i64 x2), (35, .ptr b4_0 (0 + 0)), (36, .sl false 1 (x1.L.map (cI .i64))), (37, .int .i64 x8_0_14), (38, .ref [.int .i64 v_237]), (39, .int .i64 v_237), (40, .bool v_248), (43, .int .i64 x7_0_13), (44, .bool (decide (x7_0_13 < (0 : Int)))), (45, .bool (decide (x7_0_13 < (0 : Int)))), (46, .ptr ((γ_231 12).2) (0 + 6)), (47, .int .i64 v_239.Rule), (48, .int .i64 x7_0_13), (49, .bool (decide (v_239.Rule < x7_0_13))), (50, .bool (decide (v_239.Rule < x7_0_13))), (51, .bool (decide (v_239.Rule < x7_0_13)))], [.box ((γ_231 12).2) 104 [.d (.int .u64 v_239.S.a0), .d (.int .u64 v_239.S.a1), .d (.int .u64 v_239.S.a2), .d (.int .u64 v_239.S.a3), .d (.int .i64 v_239.Lo), .d (.int .i64 v_239.Hi), .d (.int .i64 v_239.Rule), .d (.bool v_239.Last), .d (.sl false 1 (v_239.Next.map (cI .i64)))], .box bx0 98 (([.d (.sl false 1 (x0.g.First.map (cI .i64))), .d (.sl false 9 (x0.g.P.map c_api_Pos)), .d (.ex ((γ_241 11).1 0))] : List OC) ++ ((ArrN.oc 256 .u8 x0.a.Split.Of) ++ (([.d (.int .i64 x0.a.Split.Many), .d (.ex ((γ_241 11).1 1)), .d (.ex ((γ_241 11).1 2)), .d (.int .i64 x0.e)] : List OC)))), .arrA ((γ_241 11).1 0) 3 1 (x0.number.map (cI .i64)), .arrA ((γ_241 11).1 1) 42 2 (x0.a.Counts.map (Arr2.dc .i64)), .arrX ((γ_241 11).1 2) 59 4 0 (x0.a.States.map c_api_State), .box b4_0 59 [.d (.sl false 1 (x1.L.map (cI .i64))), .d (.sl false 1 (x1.R.map (cI .i64))), .d (.sl false 1 (x1.Rule.map (cI .i64))), .d (.sl false 1 (x1.Next.map (cL 2 c_api_Move)))]]⟩) (ms := [0, 1, 3, 7, 7, 7, 7, 71, 7, 455, 967, 2047, 4095, 8191, 16383, 32767, 65535, 131071, 262143, 131071, 1048575, 2097151, 4194303]) TryMixed rfl (by kernel_rfl) (by kernel_rfl) (by kernel_rfl) (fun γ_241 => by kernel_rfl) (fun γ_241 => .cons rfl (.cons rfl (.cons rfl (.cons rfl (.cons rfl (.cons rfl (.cons rfl (.cons rfl (.cons rfl (.cons rfl (.cons rfl (.cons rfl (.cons rfl (.cons rfl (.cons rfl (.cons rfl (.cons rfl (.cons rfl (.cons rfl (.cons rfl (.cons rfl (.cons rfl (.cons rfl (.cons rfl (.nil _))))))))))))))))))))))))) (fun _ => rfl) (fun γ_241 u hu => (thenS_normal (T.by_turn hu ?_)))
            rcases bif_some h with ⟨c_252, h⟩ | ⟨c_252, h⟩
            · refine T.condT rfl c_252 ?_
              refine T.by_turn ?_ (raddleref11_builder_rule_j1_T K bx0 x0 (raddleref11_builder_rule_l0 K k) ih x2 x8_0_14 x1 x8_0_14 v_237 v_237 v_248 x7_0_13 (decide (x7_0_13 < (0 : Int))) (decide (x7_0_13 < (0 : Int))) (decide (v_239.Rule < x7_0_13)) x0 v_239.S v_239.Lo v_239.Hi v_239.Rule v_239.Last v_239.Next ((γ_241 11).1 0) ((γ_241 11).1 1) ((γ_241 11).1 2) b4_0 ((γ_231 12).2) h)
              exact Turn.rp (.cons rfl (.cons rfl (.cons rfl (.cons rfl (.cons rfl (.cons rfl (.cons rfl (.cons rfl (.cons rfl (.cons rfl (.cons rfl (.cons rfl (.cons rfl (.cons rfl (.cons rfl (.cons rfl (.cons rfl (.cons rfl (.nil _))))))))))))))))))) (.c (.s .z) (.c (.s .z) (.c (.s .z) (.c (.s .z) (.c (.s .z) (.c .z (.n _)))))))
            · refine T.condF rfl c_252 ?_
              refine T.skip (inBlock_normal (thenS_normal ?_))
              refine T.regionL ?_
              refine mv rfl rfl rfl rfl rfl ?_
              refine sp rfl (OpT.int2 rfl rfl (dl rfl rfl) rfl rfl ?_)
              refine asg rfl rfl rfl rfl rfl ?_
              refine TL'.nil (thenS_normal ?_)
              refine TL.by_turn ?_ (ih x2 x7_0_13 (IntKind.i64.wrap (x8_0_14 + (1 : Int))) x0 x1 ((γ_241 11).1 0) ((γ_241 11).1 1) ((γ_241 11).1 2) b4_0 h)
              exact Turn.rp (.cons rfl (.cons rfl (.cons rfl (.cons rfl (.cons rfl (.nil _)))))) (.c (.s .z) (.c (.s .z) (.c (.s .z) (.c (.s .z) (.c (.s .z) (.n _))))))
        · refine DGG.off c_250 rfl rfl rfl rfl rfl (fun _ => rfl) ?_
          refine DGG.off c_250 rfl rfl rfl rfl rfl (fun _ => rfl) ?_
          refine DGG.off c_250 rfl rfl rfl rfl rfl (fun _ => rfl) ?_
          refine DGG.gone rfl rfl rfl rfl rfl (fun _ => rfl) ?_
          refine DGG.gone rfl rfl rfl rfl rfl (fun _ => rfl) ?_
          refine DGG.gone rfl rfl rfl rfl rfl (fun _ => rfl) ?_
          refine DGG.gone rfl rfl rfl rfl rfl (fun _ => rfl) ?_
          refine DGG.off c_250 rfl rfl rfl rfl rfl (fun _ => rfl) ?_
          refine DGG.step (c := fun γ_241 => ⟨some 51, .bool false, [(42, .bool v_248)], [], []⟩) [] (fun _ _ _ => rfl) (fun γ_241 t hm => One.step rfl (.free rfl) (OpT.pickF rfl (dl rfl rfl) hm.s0 c_250 rfl ⟨(fun _ => undef, 0), rfl⟩)) (fun γ_241 => Ct.met_of rfl rfl) ?_
          refine DGG.fin (s1 := fun γ_241 => ⟨[(0, .ptr bx0 0), (2, .int .i64 x2), (4, .ptr b4_0 0), (7, .int .i64 x7_0_13), (8, .int .i64 x8_0_14), (9, .ptr ((γ_231 12).2) 0), (32, .ptr bx0 0), (33, .agg [.sl false 1 (x1.L.map (cI .i64)), .sl false 1 (x1.R.map (cI .i64)), .sl false 1 (x1.Rule.map (cI .i64)), .sl false 1 (x1.Next.map (cL 2 c_api_Move))]), (34, .int .i64 x2), (35, .ptr b4_0 (0 + 0)), (36, .sl false 1 (x1.L.map (cI .i64))), (37, .int .i64 x8_0_14), (38, .ref [.int .i64 v_237]), (39, .int .i64 v_237), (40, .bool v_248), (43, .tup []), (44, .tup []), (45, .tup []), (46, .tup []), (47, .tup []), (48, .tup []), (49, .tup []), (50, .tup []), (51, .bool false)], [.box ((γ_231 12).2) 104 [.d (.int .u64 v_239.S.a0), .d (.int .u64 v_239.S.a1), .d (.int .u64 v_239.S.a2), .d (.int .u64 v_239.S.a3), .d (.int .i64 v_239.Lo), .d (.int .i64 v_239.Hi), .d (.int .i64 v_239.Rule), .d (.bool v_239.Last), .d (.sl false 1 (v_239.Next.map (cI .i64)))], .box bx0 98 (([.d (.sl false 1 (x0.g.First.map (cI .i64))), .d (.sl false 9 (x0.g.P.map c_api_Pos)), .d (.ex ((γ_241 11).1 0))] : List OC) ++ ((ArrN.oc 256 .u8 x0.a.Split.Of) ++ (([.d (.int .i64 x0.a.Split.Many), .d (.ex ((γ_241 11).1 1)), .d (.ex ((γ_241 11).1 2)), .d (.int .i64 x0.e)] : List OC)))), .arrA ((γ_241 11).1 0) 3 1 (x0.number.map (cI .i64)), .arrA ((γ_241 11).1 1) 42 2 (x0.a.Counts.map (Arr2.dc .i64)), .arrX ((γ_241 11).1 2) 59 4 0 (x0.a.States.map c_api_State), .box b4_0 59 [.d (.sl false 1 (x1.L.map (cI .i64))), .d (.sl false 1 (x1.R.map (cI .i64))), .d (.sl false 1 (x1.Rule.map (cI .i64))), .d (.sl false 1 (x1.Next.map (cL 2 c_api_Move)))]]⟩) (ms := [0, 1, 3, 7, 7, 7, 7, 71, 7, 455, 967, 2047, 4095, 8191, 16383, 32767, 65535, 131071, 262143, 131071, 1048575, 2097151, 4194303]) TryMixed rfl (by kernel_rfl) (by kernel_rfl) (by kernel_rfl) (fun γ_241 => by kernel_rfl) (fun γ_241 => .cons rfl (.cons rfl (.cons rfl (.cons rfl (.cons rfl (.cons rfl (.cons rfl (.cons rfl (.cons rfl (.cons rfl (.cons rfl (.cons rfl (.cons rfl (.cons rfl (.cons rfl (.cons rfl (.cons rfl (.cons rfl (.cons rfl (.cons rfl (.cons rfl (.cons rfl (.cons rfl (.cons rfl (.nil _))))))))))))))))))))))))) (fun _ => rfl) (fun γ_241 u hu => (thenS_normal (T.by_turn hu ?_)))
          refine T.condF rfl rfl ?_
          refine T.skip (inBlock_normal (thenS_normal ?_))
          refine T.regionL ?_
          refine mv rfl rfl rfl rfl rfl ?_
          refine sp rfl (OpT.int2 rfl rfl (dl rfl rfl) rfl rfl ?_)
          refine asg rfl rfl rfl rfl rfl ?_
          refine TL'.nil (thenS_normal ?_)
          refine TL.by_turn ?_ (ih x2 x7_0_13 (IntKind.i64.wrap (x8_0_14 + (1 : Int))) x0 x1 ((γ_241 11).1 0) ((γ_241 11).1 1) ((γ_241 11).1 2) b4_0 h)
          exact Turn.rp (.cons rfl (.cons rfl (.cons rfl (.cons rfl (.cons rfl (.nil _)))))) (.c (.s .z) (.c (.s .z) (.c (.s .z) (.c (.s .z) (.c (.s .z) (.n _))))))
      · refine DGG.off c_247 rfl rfl rfl rfl rfl (fun _ => rfl) ?_
        refine DGG.off c_247 rfl rfl rfl rfl rfl (fun _ => rfl) ?_
        refine DGG.off c_247 rfl rfl rfl rfl rfl (fun _ => rfl) ?_
        refine DGG.off c_247 rfl rfl rfl rfl rfl (fun _ => rfl) ?_
        refine DGG.off c_247 rfl rfl rfl rfl rfl (fun _ => rfl) ?_
        refine DGG.off c_247 rfl rfl rfl rfl rfl (fun _ => rfl) ?_
        refine DGG.off c_247 rfl rfl rfl rfl rfl (fun _ => rfl) ?_
        refine DGG.off c_247 rfl rfl rfl rfl rfl (fun _ => rfl) ?_
        refine DGG.off c_247 rfl rfl rfl rfl rfl (fun _ => rfl) ?_
        refine DGG.step (c := fun γ_241 => ⟨some 41, .bool false, [(31, .bool v_239.Last)], [], []⟩) [] (fun _ _ _ => rfl) (fun γ_241 t hm => One.step rfl (.free rfl) (OpT.pickF rfl (dl rfl rfl) hm.s0 c_247 rfl ⟨(fun _ => undef, 0), rfl⟩)) (fun γ_241 => Ct.met_of rfl rfl) ?_
        refine DGG.step (c := fun γ_241 => ⟨some 42, .bool false, [(41, .bool false)], [], []⟩) [] (fun _ _ _ => rfl) (fun γ_241 t hm => One.step rfl (.free rfl) (OpT.move rfl (dl rfl rfl) hm.s0 ⟨(fun _ => undef, 0), rfl⟩)) (fun γ_241 => Ct.met_of rfl rfl) ?_
        refine DGG.off rfl rfl rfl rfl rfl rfl (fun _ => rfl) ?_
        refine DGG.off rfl rfl rfl rfl rfl rfl (fun _ => rfl) ?_
        refine DGG.off rfl rfl rfl rfl rfl rfl (fun _ => rfl) ?_
        refine DGG.gone rfl rfl rfl rfl rfl (fun _ => rfl) ?_
        refine DGG.gone rfl rfl rfl rfl rfl (fun _ => rfl) ?_
        refine DGG.gone rfl rfl rfl rfl rfl (fun _ => rfl) ?_
        refine DGG.gone rfl rfl rfl rfl rfl (fun _ => rfl) ?_
        refine DGG.off rfl rfl rfl rfl rfl rfl (fun _ => rfl) ?_
        refine DGG.step (c := fun γ_241 => ⟨some 51, .bool false, [(42, .bool false)], [], []⟩) [] (fun _ _ _ => rfl) (fun γ_241 t hm => One.step rfl (.free rfl) (OpT.pickF rfl (dl rfl rfl) hm.s0 rfl rfl ⟨(fun _ => undef, 0), rfl⟩)) (fun γ_241 => Ct.met_of rfl rfl) ?_
        refine DGG.fin (s1 := fun γ_241 => ⟨[(0, .ptr bx0 0), (2, .int .i64 x2), (4, .ptr b4_0 0), (7, .int .i64 x7_0_13), (8, .int .i64 x8_0_14), (9, .ptr ((γ_231 12).2) 0), (32, .tup []), (33, .tup []), (34, .tup []), (35, .tup []), (36, .tup []), (37, .tup []), (38, .tup []), (39, .tup []), (40, .tup []), (43, .tup []), (44, .tup []), (45, .tup []), (46, .tup []), (47, .tup []), (48, .tup []), (49, .tup []), (50, .tup []), (51, .bool false)], [.box ((γ_231 12).2) 104 [.d (.int .u64 v_239.S.a0), .d (.int .u64 v_239.S.a1), .d (.int .u64 v_239.S.a2), .d (.int .u64 v_239.S.a3), .d (.int .i64 v_239.Lo), .d (.int .i64 v_239.Hi), .d (.int .i64 v_239.Rule), .d (.bool v_239.Last), .d (.sl false 1 (v_239.Next.map (cI .i64)))], .box bx0 98 (([.d (.sl false 1 (x0.g.First.map (cI .i64))), .d (.sl false 9 (x0.g.P.map c_api_Pos)), .d (.ex w0_0)] : List OC) ++ ((ArrN.oc 256 .u8 x0.a.Split.Of) ++ (([.d (.int .i64 x0.a.Split.Many), .d (.ex w0_0a), .d (.ex w0_0aa), .d (.int .i64 x0.e)] : List OC)))), .arrA w0_0 3 1 (x0.number.map (cI .i64)), .arrA w0_0a 42 2 (x0.a.Counts.map (Arr2.dc .i64)), .arrX w0_0aa 59 4 0 (x0.a.States.map c_api_State), .box b4_0 59 [.d (.sl false 1 (x1.L.map (cI .i64))), .d (.sl false 1 (x1.R.map (cI .i64))), .d (.sl false 1 (x1.Rule.map (cI .i64))), .d (.sl false 1 (x1.Next.map (cL 2 c_api_Move)))]]⟩) (ms := [0, 1, 3, 7, 7, 7, 7, 71, 7, 455, 967, 2047, 4095, 8191, 16383, 32767, 65535, 131071, 262143, 131071, 1048575, 2097151, 4194303]) TryMixed rfl (by kernel_rfl) (by kernel_rfl) (by kernel_rfl) (fun γ_241 => by kernel_rfl) (fun γ_241 => .cons rfl (.cons rfl (.cons rfl (.cons rfl (.cons rfl (.cons rfl (.cons rfl (.cons rfl (.cons rfl (.cons rfl (.cons rfl (.cons rfl (.cons rfl (.cons rfl (.cons rfl (.cons rfl (.cons rfl (.cons rfl (.cons rfl (.cons rfl (.cons rfl (.cons rfl (.cons rfl (.cons rfl (.nil _))))))))))))))))))))))))) (fun _ => rfl) (fun γ_241 u hu => (thenS_normal (T.by_turn hu ?_)))
        refine T.condF rfl rfl ?_
        refine T.skip (inBlock_normal (thenS_normal ?_))
        refine T.regionL ?_
        refine mv rfl rfl rfl rfl rfl ?_
        refine sp rfl (OpT.int2 rfl rfl (dl rfl rfl) rfl rfl ?_)
        refine asg rfl rfl rfl rfl rfl ?_
        refine TL'.nil (thenS_normal ?_)
        refine TL.by_turn ?_ (ih x2 x7_0_13 (IntKind.i64.wrap (x8_0_14 + (1 : Int))) x0 x1 w0_0 w0_0a w0_0aa b4_0 h)
        exact Turn.rp (.cons rfl (.cons rfl (.cons rfl (.cons rfl (.cons rfl (.nil _)))))) (.c (.s .z) (.c (.s .z) (.c (.s .z) (.c (.s .z) (.c (.s .z) (.n _))))))
    · refine T.condF rfl c_230 ?_
      refine T.exit (thenS_exit (thenS_exit (inBlock_exit (thenS_normal ?_))))
      refine T.seq ?_
      refine T.regionL ?_
      refine mv rfl rfl rfl rfl rfl ?_
      refine asg rfl rfl rfl rfl rfl ?_
      refine TL'.nil (thenS_normal ?_)
      refine T.ret ?_
      exact Fin.doneK (.cons _ _ _ _ (.tmp 6 _ rfl) .nil) (.cons 0 rfl (.cons 0 rfl (.cons 0 rfl (.cons 0 rfl (.nil _))))) (by cases h; exact ⟨gl [w0_0, w0_0a, w0_0aa], rfl, rfl⟩)

theorem raddleref11_builder_rule_T (K : Nat) {x0 : raddleref11_builder} {x1 : api_State} {x2 : Int} {bx0 : Nat} {wx0c1 : Value} {wx0c2c1 : Value} {wx0c2c2 : Value} {r : Int} (h : raddleref11_builder_rule K x0 x1 x2 = some r) : CallG Try.prog 51 [.ptr bx0 0, .agg [.sl false 1 (x1.L.map (cI .i64)), .sl false 1 (x1.R.map (cI .i64)), .sl false 1 (x1.Rule.map (cI .i64)), .sl false 1 (x1.Next.map (cL 2 c_api_Move))], .int .i64 x2] [.box bx0 98 (([.d (.sl false 1 (x0.g.First.map (cI .i64))), .d (.sl false 9 (x0.g.P.map c_api_Pos)), .d (.ex wx0c1)] : List OC) ++ ((ArrN.oc 256 .u8 x0.a.Split.Of) ++ (([.d (.int .i64 x0.a.Split.Many), .d (.ex wx0c2c1), .d (.ex wx0c2c2), .d (.int .i64 x0.e)] : List OC)))), .arrA wx0c1 3 1 (x0.number.map (cI .i64)), .arrA wx0c2c1 42 2 (x0.a.Counts.map (Arr2.dc .i64)), .arrX wx0c2c2 59 4 0 (x0.a.States.map c_api_State)] (fun γ => (.int .i64 r)) (fun γ => [.box bx0 98 (([.d (.sl false 1 (x0.g.First.map (cI .i64))), .d (.sl false 9 (x0.g.P.map c_api_Pos)), .d (.ex (γ 0))] : List OC) ++ ((ArrN.oc 256 .u8 x0.a.Split.Of) ++ (([.d (.int .i64 x0.a.Split.Many), .d (.ex (γ 1)), .d (.ex (γ 2)), .d (.int .i64 x0.e)] : List OC)))), .arrA (γ 0) 3 1 (x0.number.map (cI .i64)), .arrA (γ 1) 42 2 (x0.a.Counts.map (Arr2.dc .i64)), .arrX (γ 2) 59 4 0 (x0.a.States.map c_api_State)]) := by
  refine CallT.intro Try.func51 rfl (Nat.le_of_ble_eq_true rfl) ?_
  show T Try.prog 55 (Code.at [] (codeOf Try.f51)) ⟨paramSlots 0 [.ptr bx0 0, .agg [.sl false 1 (x1.L.map (cI .i64)), .sl false 1 (x1.R.map (cI .i64)), .sl false 1 (x1.Rule.map (cI .i64)), .sl false 1 (x1.Next.map (cL 2 c_api_Move))], .int .i64 x2], [.box bx0 98 (([.d (.sl false 1 (x0.g.First.map (cI .i64))), .d (.sl false 9 (x0.g.P.map c_api_Pos)), .d (.ex wx0c1)] : List OC) ++ ((ArrN.oc 256 .u8 x0.a.Split.Of) ++ (([.d (.int .i64 x0.a.Split.Many), .d (.ex wx0c2c1), .d (.ex wx0c2c2), .d (.int .i64 x0.e)] : List OC)))), .arrA wx0c1 3 1 (x0.number.map (cI .i64)), .arrA wx0c2c1 42 2 (x0.a.Counts.map (Arr2.dc .i64)), .arrX wx0c2c2 59 4 0 (x0.a.States.map c_api_State)]⟩ (raddleref11_builder_rule_q bx0 x0 r)
  unfold raddleref11_builder_rule at h
  refine T.seq ?_
  refine T.regionL ?_
  refine sp rfl (OpT.boxAgg rfl (dl rfl rfl) rfl (fun b_229 => ?_))
  refine asg rfl rfl rfl rfl rfl ?_
  refine TL'.nil (thenS_normal ?_)
  refine T.seq ?_
  refine T.regionL ?_
  refine asg rfl rfl rfl rfl rfl ?_
  refine TL'.nil (thenS_normal ?_)
  refine T.seq ?_
  refine T.seq ?_
  refine T.regionL ?_
  refine asg rfl rfl rfl rfl rfl ?_
  refine TL'.nil (thenS_normal ?_)
  refine T.block ?_
  refine T.loop ?_
  refine TL.by_turn ?_ (raddleref11_builder_rule_l0_T K bx0 x0 K x2 (-1 : Int) (0 : Int) x0 x1 wx0c1 wx0c2c1 wx0c2c2 b_229 h)
  exact Turn.rp (.cons rfl (.cons rfl (.cons rfl (.cons rfl (.cons rfl (.nil _)))))) (.c (.s .z) (.c (.s .z) (.c (.s .z) (.c (.s .z) (.c .z (.n _))))))

end Go.Rv

/- Each function computes what its plain text says: printed by a program of ours. -/
import Derived.Test.YtocjhbbldeankaaDoorRgW7
namespace Go.Rv
open Go.Proofs
set_option maxRecDepth 100000
set_option maxHeartbeats 4000000
set_option linter.unusedVariables false

abbrev l5_PrintBytes_q (r : Bool) : Exit → St → Prop := retS Tryd.prog Tryd.f4 (fun y t => y = (.bool r) ∧ t = [.tab 1 pow10V, .ro 2 deBruijnD, .ro 3 deBruijn32D])

abbrev l5_PrintBytes_qs1111 (r : Bool) : Exit → St → Prop := thenS (fun s' => T Tryd.prog 84 (Code.at [1, 1, 1, 1] (codeOf Tryd.f4)) s' ((l5_PrintBytes_q r))) ((l5_PrintBytes_q r))

abbrev l5_PrintBytes_qb0x1111 (r : Bool) : Exit → St → Prop := inBlockS 0 ((l5_PrintBytes_qs1111 r))

abbrev l5_PrintBytes_ql111010 (r : Bool) : Exit → St → Prop := thenS (fun s' => TL Tryd.prog 84 (Code.at [1, 1, 1, 0, 1, 0, 0] (codeOf Tryd.f4)) s' ((l5_PrintBytes_qb0x1111 r))) ((l5_PrintBytes_qb0x1111 r))

abbrev l5_PrintBytes_qs1110100111 (r : Bool) : Exit → St → Prop := thenS (fun s' => T Tryd.prog 84 (Code.at [1, 1, 1, 0, 1, 0, 0, 1, 1, 1] (codeOf Tryd.f4)) s' ((l5_PrintBytes_ql111010 r))) ((l5_PrintBytes_ql111010 r))

abbrev l5_PrintBytes_qb1_0x1110100111 (r : Bool) : Exit → St → Prop := inBlockS 1 ((l5_PrintBytes_qs1110100111 r))

theorem l5_PrintBytes_j1_T {r : Bool} (K : Nat) (h : l5_PrintBytes_j1 K = some r) : T Tryd.prog 84 (Code.at [1, 1, 1, 0, 1, 0, 0, 1, 1, 0, 0, 1, 1, 0] (codeOf Tryd.f4)) ⟨[], [.tab 1 pow10V, .ro 2 deBruijnD, .ro 3 deBruijn32D]⟩ (l5_PrintBytes_qb1_0x1110100111 r) := by
  unfold l5_PrintBytes_j1 at h
  refine T.seq ?_
  refine T.regionL ?_
  refine asg rfl rfl rfl rfl rfl ?_
  refine TL'.nil (thenS_normal ?_)
  refine T.ret (inBlock_ret (thenS_ret (thenS_ret (inBlock_ret (thenS_ret ?_)))))
  exact Fin.doneK (.cons _ _ _ _ (.tmp 4 _ rfl) .nil) (.cons 0 rfl (.cons 0 rfl (.cons 0 rfl (.nil _)))) (by cases h; exact ⟨rfl, rfl⟩)

theorem l5_PrintBytes_j2_T {r : Bool} (K : Nat) (x0 : Int) (x1 : Int) (x5_0_2 : Bool) (x6_0_3 : ByteArray) (x7_0_4 : ByteArray) (x9_2_5 : Bool) (h : l5_PrintBytes_j2 K x0 x1 x5_0_2 x6_0_3 x7_0_4 x9_2_5 = some r) : T Tryd.prog 84 (Code.at [1, 1, 1, 1, 1] (codeOf Tryd.f4)) ⟨[(0, .int .u8 x0), (1, .int .u8 x1), (5, .bool x5_0_2), (6, .str x6_0_3), (7, .str x7_0_4), (9, .bool x9_2_5)], [.tab 1 pow10V, .ro 2 deBruijnD, .ro 3 deBruijn32D]⟩ (l5_PrintBytes_q r) := by
  unfold l5_PrintBytes_j2 at h
  refine T.seq ?_
  refine T.regionL ?_
  refine mv rfl rfl rfl rfl rfl ?_
  refine mv rfl rfl rfl rfl rfl ?_
  rcases bif_some h with ⟨c_238, h⟩ | ⟨c_238, h⟩
  · refine TL'.step (.on rfl rfl rfl c_238) (OpT.move rfl (dl rfl rfl) rfl ?_)
    refine TL'.step (.on rfl rfl rfl c_238) (OpT.lenStr rfl (dl rfl rfl) Tryd.underlying9 rfl ?_)
    refine TL'.step (.on rfl rfl rfl c_238) (OpT.int2 rfl rfl (dl rfl rfl) rfl rfl ?_)
    refine sp rfl (OpT.pickT rfl (dl rfl rfl) rfl c_238 rfl ?_)
    refine mv rfl rfl rfl rfl rfl ?_
    rcases bif_some h with ⟨c_239, h⟩ | ⟨c_239, h⟩
    · refine TL'.step (.on rfl rfl rfl c_239) (OpT.move rfl (dl rfl rfl) rfl ?_)
      refine TL'.step (.on rfl rfl rfl c_239) (OpT.lenStr rfl (dl rfl rfl) Tryd.underlying9 rfl ?_)
      refine TL'.step (.on rfl rfl rfl c_239) (OpT.int2 rfl rfl (dl rfl rfl) rfl rfl ?_)
      refine sp rfl (OpT.pickT rfl (dl rfl rfl) rfl c_239 rfl ?_)
      refine mv rfl rfl rfl rfl rfl ?_
      rcases bif_some h with ⟨c_240, h⟩ | ⟨c_240, h⟩
      · refine TL'.step (.on rfl rfl rfl c_240) (OpT.move rfl (dl rfl rfl) rfl ?_)
        refine TL'.step (.on rfl rfl rfl c_240) (OpT.move rfl (dl rfl rfl) rfl ?_)
        refine TL'.step (.on rfl rfl rfl c_240) (OpT.str_eql rfl (dl rfl rfl) rfl rfl ?_)
        refine TL'.step (.on rfl rfl rfl c_240) (OpT.move rfl (dl rfl rfl) rfl ?_)
        refine TL'.step (.on rfl rfl rfl c_240) (OpT.move rfl (dl rfl rfl) rfl ?_)
        refine TL'.step (.on rfl rfl rfl c_240) (OpT.int2 rfl rfl (dl rfl rfl) rfl rfl ?_)
        refine TL'.step (.on rfl rfl rfl c_240) (OpT.bool_eql rfl (dl rfl rfl) Tryd.underlying4 rfl rfl ?_)
        refine sp rfl (OpT.pickT rfl (dl rfl rfl) rfl c_240 rfl ?_)
        refine mv rfl rfl rfl rfl rfl ?_
        rcases bif_some h with ⟨c_241, h⟩ | ⟨c_241, h⟩
        · refine TL'.step (.on rfl rfl rfl c_241) (OpT.move rfl (dl rfl rfl) rfl ?_)
          refine TL'.step (.on rfl rfl rfl c_241) (OpT.not rfl (dl rfl rfl) rfl ?_)
          refine TL'.step (.on rfl rfl rfl c_241) (OpT.move rfl (dl rfl rfl) rfl ?_)
          rcases bif_some h with ⟨c_242, h⟩ | ⟨c_242, h⟩
          · refine TL'.passU (.off _ _ _ _ rfl rfl rfl c_242) (dl rfl rfl) ?_
            refine TL'.passU (.off _ _ _ _ rfl rfl rfl c_242) (dl rfl rfl) ?_
            refine TL'.passU (.off _ _ _ _ rfl rfl rfl c_242) (dl rfl rfl) ?_
            refine TL'.passU (.off _ _ _ _ rfl rfl rfl c_242) (dl rfl rfl) ?_
            refine TL'.passU (.off _ _ _ _ rfl rfl rfl c_242) (dl rfl rfl) ?_
            refine TL'.step (.on rfl rfl rfl c_241) (OpT.pickT rfl (dl rfl rfl) rfl c_242 rfl ?_)
            refine sp rfl (OpT.pickT rfl (dl rfl rfl) rfl c_241 rfl ?_)
            refine asg rfl rfl rfl rfl rfl ?_
            refine TL'.nil (thenS_normal ?_)
            refine T.ret ?_
            exact Fin.doneK (.cons _ _ _ _ (.tmp 4 _ rfl) .nil) (.cons 0 rfl (.cons 0 rfl (.cons 0 rfl (.nil _)))) (by cases h; exact ⟨rfl, rfl⟩)
          · refine TL'.step (.on rfl rfl rfl c_242) (OpT.move rfl (dl rfl rfl) rfl ?_)
            refine TL'.step (.on rfl rfl rfl c_242) (OpT.move rfl (dl rfl rfl) rfl ?_)
            refine TL'.step (.on rfl rfl rfl c_242) (OpT.buildSlice (elems := ([x0] : List Int).map (cI .u8)) rfl (dl rfl rfl) Tryd.underlying32 i5 (by decide) rfl (all1 rfl) rfl rfl rfl (lenAll rfl) (by decide) ?_)
            refine TL'.step (.on rfl rfl rfl c_242) (OpT.convBytes (xs := [x0]) rfl (dl rfl rfl) Tryd.underlying32 Tryd.underlying5 Tryd.underlying9 rfl ?_)
            refine TL'.step (.on rfl rfl rfl c_242) (OpT.str_eql rfl (dl rfl rfl) rfl rfl ?_)
            refine TL'.step (.on rfl rfl rfl c_241) (OpT.pickF rfl (dl rfl rfl) rfl c_242 rfl ?_)
            refine sp rfl (OpT.pickT rfl (dl rfl rfl) rfl c_241 rfl ?_)
            refine asg rfl rfl rfl rfl rfl ?_
            refine TL'.nil (thenS_normal ?_)
            refine T.ret ?_
            exact Fin.doneK (.cons _ _ _ _ (.tmp 4 _ rfl) .nil) (.cons 0 rfl (.cons 0 rfl (.cons 0 rfl (.nil _)))) (by cases h; exact ⟨rfl, rfl⟩)
        · refine TL'.passU (.off _ _ _ _ rfl rfl rfl c_241) (dl rfl rfl) ?_
          refine TL'.passU (.off _ _ _ _ rfl rfl rfl c_241) (dl rfl rfl) ?_
          refine TL'.passU (.off _ _ _ _ rfl rfl rfl c_241) (dl rfl rfl) ?_
          refine TL'.passU (.gone _ _ _ rfl rfl rfl) (dl rfl rfl) ?_
          refine TL'.passU (.gone _ _ _ rfl rfl rfl) (dl rfl rfl) ?_
          refine TL'.passU (.gone _ _ _ rfl rfl rfl) (dl rfl rfl) ?_
          refine TL'.passU (.gone _ _ _ rfl rfl rfl) (dl rfl rfl) ?_
          refine TL'.passU (.gone _ _ _ rfl rfl rfl) (dl rfl rfl) ?_
          refine TL'.passU (.off _ _ _ _ rfl rfl rfl c_241) (dl rfl rfl) ?_
          refine sp rfl (OpT.pickF rfl (dl rfl rfl) rfl c_241 rfl ?_)
          refine asg rfl rfl rfl rfl rfl ?_
          refine TL'.nil (thenS_normal ?_)
          refine T.ret ?_
          exact Fin.doneK (.cons _ _ _ _ (.tmp 4 _ rfl) .nil) (.cons 0 rfl (.cons 0 rfl (.cons 0 rfl (.nil _)))) (by cases h; exact ⟨rfl, rfl⟩)
      · refine TL'.passU (.off _ _ _ _ rfl rfl rfl c_240) (dl rfl rfl) ?_
        refine TL'.passU (.off _ _ _ _ rfl rfl rfl c_240) (dl rfl rfl) ?_
        refine TL'.passU (.off _ _ _ _ rfl rfl rfl c_240) (dl rfl rfl) ?_
        refine TL'.passU (.off _ _ _ _ rfl rfl rfl c_240) (dl rfl rfl) ?_
        refine TL'.passU (.off _ _ _ _ rfl rfl rfl c_240) (dl rfl rfl) ?_
        refine TL'.passU (.off _ _ _ _ rfl rfl rfl c_240) (dl rfl rfl) ?_
        refine TL'.passU (.off _ _ _ _ rfl rfl rfl c_240) (dl rfl rfl) ?_
        refine sp rfl (OpT.pickF rfl (dl rfl rfl) rfl c_240 rfl ?_)
        refine mv rfl rfl rfl rfl rfl ?_
        refine TL'.passU (.off _ _ _ _ rfl rfl rfl rfl) (dl rfl rfl) ?_
        refine TL'.passU (.off _ _ _ _ rfl rfl rfl rfl) (dl rfl rfl) ?_
        refine TL'.passU (.off _ _ _ _ rfl rfl rfl rfl) (dl rfl rfl) ?_
        refine TL'.passU (.gone _ _ _ rfl rfl rfl) (dl rfl rfl) ?_
        refine TL'.passU (.gone _ _ _ rfl rfl rfl) (dl rfl rfl) ?_
        refine TL'.passU (.gone _ _ _ rfl rfl rfl) (dl rfl rfl) ?_
        refine TL'.passU (.gone _ _ _ rfl rfl rfl) (dl rfl rfl) ?_
        refine TL'.passU (.gone _ _ _ rfl rfl rfl) (dl rfl rfl) ?_
        refine TL'.passU (.off _ _ _ _ rfl rfl rfl rfl) (dl rfl rfl) ?_
        refine sp rfl (OpT.pickF rfl (dl rfl rfl) rfl rfl rfl ?_)
        refine asg rfl rfl rfl rfl rfl ?_
        refine TL'.nil (thenS_normal ?_)
        refine T.ret ?_
        exact Fin.doneK (.cons _ _ _ _ (.tmp 4 _ rfl) .nil) (.cons 0 rfl (.cons 0 rfl (.cons 0 rfl (.nil _)))) (by cases h; exact ⟨rfl, rfl⟩)
    · refine TL'.passU (.off _ _ _ _ rfl rfl rfl c_239) (dl rfl rfl) ?_
      refine TL'.passU (.off _ _ _ _ rfl rfl rfl c_239) (dl rfl rfl) ?_
      refine TL'.passU (.off _ _ _ _ rfl rfl rfl c_239) (dl rfl rfl) ?_
      refine sp rfl (OpT.pickF rfl (dl rfl rfl) rfl c_239 rfl ?_)
      refine mv rfl rfl rfl rfl rfl ?_
      refine TL'.passU (.off _ _ _ _ rfl rfl rfl rfl) (dl rfl rfl) ?_
      refine TL'.passU (.off _ _ _ _ rfl rfl rfl rfl) (dl rfl rfl) ?_
      refine TL'.passU (.off _ _ _ _ rfl rfl rfl rfl) (dl rfl rfl) ?_
      refine TL'.passU (.off _ _ _ _ rfl rfl rfl rfl) (dl rfl rfl) ?_
      refine TL'.passU (.off _ _ _ _ rfl rfl rfl rfl) (dl rfl rfl) ?_
      refine TL'.passU (.off _ _ _ _ rfl rfl rfl rfl) (dl rfl rfl) ?_
      refine TL'.passU (.off _ _ _ _ rfl rfl rfl rfl) (dl rfl rfl) ?_
      refine sp rfl (OpT.pickF rfl (dl rfl rfl) rfl rfl rfl ?_)
      refine mv rfl rfl rfl rfl rfl ?_
      refine TL'.passU (.off _ _ _ _ rfl rfl rfl rfl) (dl rfl rfl) ?_
      refine TL'.passU (.off _ _ _ _ rfl rfl rfl rfl) (dl rfl rfl) ?_
      refine TL'.passU (.off _ _ _ _ rfl rfl rfl rfl) (dl rfl rfl) ?_
      refine TL'.passU (.gone _ _ _ rfl rfl rfl) (dl rfl rfl) ?_
      refine TL'.passU (.gone _ _ _ rfl rfl rfl) (dl rfl rfl) ?_
      refine TL'.passU (.gone _ _ _ rfl rfl rfl) (dl rfl rfl) ?_
      refine TL'.passU (.gone _ _ _ rfl rfl rfl) (dl rfl rfl) ?_
      refine TL'.passU (.gone _ _ _ rfl rfl rfl) (dl rfl rfl) ?_
      refine TL'.passU (.off _ _ _ _ rfl rfl rfl rfl) (dl rfl rfl) ?_
      refine sp rfl (OpT.pickF rfl (dl rfl rfl) rfl rfl rfl ?_)
      refine asg rfl rfl rfl rfl rfl ?_
      refine TL'.nil (thenS_normal ?_)
      refine T.ret ?_
      exact Fin.doneK (.cons _ _ _ _ (.tmp 4 _ rfl) .nil) (.cons 0 rfl (.cons 0 rfl (.cons 0 rfl (.nil _)))) (by cases h; exact ⟨rfl, rfl⟩)
  · refine TL'.passU (.off _ _ _ _ rfl rfl rfl c_238) (dl rfl rfl) ?_
    refine TL'.passU (.off _ _ _ _ rfl rfl rfl c_238) (dl rfl rfl) ?_
    refine TL'.passU (.off _ _ _ _ rfl rfl rfl c_238) (dl rfl rfl) ?_
    refine sp rfl (OpT.pickF rfl (dl rfl rfl) rfl c_238 rfl ?_)
    refine mv rfl rfl rfl rfl rfl ?_
    refine TL'.passU (.off _ _ _ _ rfl rfl rfl rfl) (dl rfl rfl) ?_
    refine TL'.passU (.off _ _ _ _ rfl rfl rfl rfl) (dl rfl rfl) ?_
    refine TL'.passU (.off _ _ _ _ rfl rfl rfl rfl) (dl rfl rfl) ?_
    refine sp rfl (OpT.pickF rfl (dl rfl rfl) rfl rfl rfl ?_)
    refine mv rfl rfl rfl rfl rfl ?_
    refine TL'.passU (.off _ _ _ _ rfl rfl rfl rfl) (dl rfl rfl) ?_
    refine TL'.passU (.off _ _ _ _ rfl rfl rfl rfl) (dl rfl rfl) ?_
    refine TL'.passU (.off _ _ _ _ rfl rfl rfl rfl) (dl rfl rfl) ?_
    refine TL'.passU (.off _ _ _ _ rfl rfl rfl rfl) (dl rfl rfl) ?_
    refine TL'.passU (.off _ _ _ _ rfl rfl rfl rfl) (dl rfl rfl) ?_
    refine TL'.passU (.off _ _ _ _ rfl rfl rfl rfl) (dl rfl rfl) ?_
    refine TL'.passU (.off _ _ _ _ rfl rfl rfl rfl) (dl rfl rfl) ?_
    refine sp rfl (OpT.pickF rfl (dl rfl rfl) rfl rfl rfl ?_)
    refine mv rfl rfl rfl rfl rfl ?_
    refine TL'.passU (.off _ _ _ _ rfl rfl rfl rfl) (dl rfl rfl) ?_
    refine TL'.passU (.off _ _ _ _ rfl rfl rfl rfl) (dl rfl rfl) ?_
    refine TL'.passU (.off _ _ _ _ rfl rfl rfl rfl) (dl rfl rfl) ?_
    refine TL'.passU (.gone _ _ _ rfl rfl rfl) (dl rfl rfl) ?_
    refine TL'.passU (.gone _ _ _ rfl rfl rfl) (dl rfl rfl) ?_
    refine TL'.passU (.gone _ _ _ rfl rfl rfl) (dl rfl rfl) ?_
    refine TL'.passU (.gone _ _ _ rfl rfl rfl) (dl rfl rfl) ?_
    refine TL'.passU (.gone _ _ _ rfl rfl rfl) (dl rfl rfl) ?_
    refine TL'.passU (.off _ _ _ _ rfl rfl rfl rfl) (dl rfl rfl) ?_
    refine sp rfl (OpT.pickF rfl (dl rfl rfl) rfl rfl rfl ?_)
    refine asg rfl rfl rfl rfl rfl ?_
    refine TL'.nil (thenS_normal ?_)
    refine T.ret ?_
    exact Fin.doneK (.cons _ _ _ _ (.tmp 4 _ rfl) .nil) (.cons 0 rfl (.cons 0 rfl (.cons 0 rfl (.nil _)))) (by cases h; exact ⟨rfl, rfl⟩)

theorem l5_PrintBytes_l0_T {r : Bool} (K : Nat) : ∀ (k : Nat), ∀ (x0 : Int) (x1 : Int) (x5_0_2 : Bool) (x6_0_3 : ByteArray) (x7_0_4 : ByteArray) (x16_0_5 : Int) (x17_0_6 : Int), l5_PrintBytes_l0 K k x0 x1 x5_0_2 x6_0_3 x7_0_4 x16_0_5 x17_0_6 = some r → TL Tryd.prog 84 (Code.at [1, 1, 1, 0, 1, 0, 0] (codeOf Tryd.f4)) ⟨[(0, .int .u8 x0), (1, .int .u8 x1), (5, .bool x5_0_2), (6, .str x6_0_3), (7, .str x7_0_4), (16, .int .i64 x16_0_5), (17, .int .i64 x17_0_6)], [.tab 1 pow10V, .ro 2 deBruijnD, .ro 3 deBruijn32D]⟩ (l5_PrintBytes_qb0x1111 r) := by
  intro k
  induction k with
  | zero =>
    intro x0 x1 x5_0_2 x6_0_3 x7_0_4 x16_0_5 x17_0_6 h
    cases (show (none : Option Bool) = some r from h)
  | succ k ih =>
    intro x0 x1 x5_0_2 x6_0_3 x7_0_4 x16_0_5 x17_0_6 h
    rw [l5_PrintBytes_l0] at h
    refine TL.round ?_
    refine T.seq ?_
    refine T.regionL ?_
    refine sp rfl (OpT.int2 rfl rfl (dl rfl rfl) rfl rfl ?_)
    refine TL'.nil (thenS_normal ?_)
    refine T.seq ?_
    rcases bif_some h with ⟨c_232, h⟩ | ⟨c_232, h⟩
    · refine T.condT rfl c_232 ?_
      refine T.skip (thenS_normal ?_)
      refine T.seq ?_
      refine T.block ?_
      refine T.seq ?_
      refine T.regionL ?_
      refine mv rfl rfl rfl rfl rfl ?_
      refine asg rfl rfl rfl rfl rfl ?_
      refine TL'.nil (thenS_normal ?_)
      refine T.seq ?_
      refine T.regionL ?_
      refine mv rfl rfl rfl rfl rfl ?_
      refine mv rfl rfl rfl rfl rfl ?_
      obtain ⟨g_233, h⟩ := ck_some h
      refine sp rfl (OpT.indexStr rfl (dl rfl rfl) Tryd.underlying9 rfl rfl g_233.1 g_233.2 ?_)
      refine sp rfl (OpT.int2 rfl rfl (dl rfl rfl) rfl rfl ?_)
      refine mv rfl rfl rfl rfl rfl ?_
      rcases bif_some h with ⟨c_234, h⟩ | ⟨c_234, h⟩
      · refine TL'.passU (.off _ _ _ _ rfl rfl rfl c_234) (dl rfl rfl) ?_
        refine TL'.passU (.off _ _ _ _ rfl rfl rfl c_234) (dl rfl rfl) ?_
        refine TL'.passU (.off _ _ _ _ rfl rfl rfl c_234) (dl rfl rfl) ?_
        refine TL'.passU (.off _ _ _ _ rfl rfl rfl c_234) (dl rfl rfl) ?_
        refine sp rfl (OpT.pickT rfl (dl rfl rfl) rfl c_234 rfl ?_)
        refine TL'.nil (thenS_normal ?_)
        refine T.condT rfl rfl ?_
        refine T.by_turn ?_ (l5_PrintBytes_j1_T K h)
        exact Turn.rp (.nil _) (.c .z (.c .z (.c .z (.n _))))
      · refine TL'.step (.on rfl rfl rfl c_234) (OpT.move rfl (dl rfl rfl) rfl ?_)
        refine TL'.step (.on rfl rfl rfl c_234) (OpT.move rfl (dl rfl rfl) rfl ?_)
        refine TL'.step (.on rfl rfl rfl c_234) (OpT.indexStr rfl (dl rfl rfl) Tryd.underlying9 rfl rfl g_233.1 g_233.2 ?_)
        refine TL'.step (.on rfl rfl rfl c_234) (OpT.int2 rfl rfl (dl rfl rfl) rfl rfl ?_)
        refine sp rfl (OpT.pickF rfl (dl rfl rfl) rfl c_234 rfl ?_)
        refine TL'.nil (thenS_normal ?_)
        rcases bif_some h with ⟨c_235, h⟩ | ⟨c_235, h⟩
        · refine T.condT rfl c_235 ?_
          refine T.by_turn ?_ (l5_PrintBytes_j1_T K h)
          exact Turn.rp (.nil _) (.c .z (.c .z (.c .z (.n _))))
        · refine T.condF rfl c_235 ?_
          refine T.skip (inBlock_normal (thenS_normal ?_))
          refine T.regionL ?_
          refine sp rfl (OpT.int2 rfl rfl (dl rfl rfl) rfl rfl ?_)
          refine mv rfl rfl rfl rfl rfl ?_
          refine TL'.nil (thenS_normal ?_)
          refine TL.by_turn ?_ (ih x0 x1 x5_0_2 x6_0_3 x7_0_4 x16_0_5 (IntKind.i64.wrap (x17_0_6 + (1 : Int))) h)
          exact Turn.rp (.cons rfl (.cons rfl (.cons rfl (.cons rfl (.cons rfl (.cons rfl (.cons rfl (.nil _)))))))) (.c .z (.c .z (.c .z (.n _))))
    · refine T.condF rfl c_232 ?_
      refine T.exit (thenS_exit (thenS_exit (inBlock_exit (thenS_normal ?_))))
      refine T.seq ?_
      refine T.regionL ?_
      refine mv rfl rfl rfl rfl rfl ?_
      refine sp rfl (OpT.int2 rfl rfl (dl rfl rfl) rfl rfl ?_)
      refine mv rfl rfl rfl rfl rfl ?_
      rcases bif_some h with ⟨c_236, h⟩ | ⟨c_236, h⟩
      · refine TL'.step (.on rfl rfl rfl c_236) (OpT.move rfl (dl rfl rfl) rfl ?_)
        refine TL'.step (.on rfl rfl rfl c_236) (OpT.int2 rfl rfl (dl rfl rfl) rfl rfl ?_)
        refine sp rfl (OpT.pickT rfl (dl rfl rfl) rfl c_236 rfl ?_)
        refine mv rfl rfl rfl rfl rfl ?_
        rcases bif_some h with ⟨c_237, h⟩ | ⟨c_237, h⟩
        · refine TL'.passU (.off _ _ _ _ rfl rfl rfl c_237) (dl rfl rfl) ?_
          refine TL'.passU (.off _ _ _ _ rfl rfl rfl c_237) (dl rfl rfl) ?_
          refine TL'.passU (.off _ _ _ _ rfl rfl rfl c_237) (dl rfl rfl) ?_
          refine TL'.passU (.gone _ _ _ rfl rfl rfl) (dl rfl rfl) ?_
          refine TL'.passU (.gone _ _ _ rfl rfl rfl) (dl rfl rfl) ?_
          refine TL'.passU (.off _ _ _ _ rfl rfl rfl c_237) (dl rfl rfl) ?_
          refine sp rfl (OpT.pickT rfl (dl rfl rfl) rfl c_237 rfl ?_)
          refine mv rfl rfl rfl rfl rfl ?_
          refine TL'.passU (.off _ _ _ _ rfl rfl rfl rfl) (dl rfl rfl) ?_
          refine TL'.passU (.off _ _ _ _ rfl rfl rfl rfl) (dl rfl rfl) ?_
          refine TL'.passU (.off _ _ _ _ rfl rfl rfl rfl) (dl rfl rfl) ?_
          refine TL'.passU (.gone _ _ _ rfl rfl rfl) (dl rfl rfl) ?_
          refine TL'.passU (.gone _ _ _ rfl rfl rfl) (dl rfl rfl) ?_
          refine TL'.passU (.off _ _ _ _ rfl rfl rfl rfl) (dl rfl rfl) ?_
          refine sp rfl (OpT.pickT rfl (dl rfl rfl) rfl rfl rfl ?_)
          refine asg rfl rfl rfl rfl rfl ?_
          refine TL'.nil (thenS_normal ?_)
          refine T.by_turn ?_ (l5_PrintBytes_j2_T K x0 x1 x5_0_2 x6_0_3 x7_0_4 true h)
          exact Turn.rp (.cons rfl (.cons rfl (.cons rfl (.cons rfl (.cons rfl (.cons rfl (.nil _))))))) (.c .z (.c .z (.c .z (.n _))))
        · refine TL'.step (.on rfl rfl rfl c_237) (OpT.move rfl (dl rfl rfl) rfl ?_)
          refine TL'.step (.on rfl rfl rfl c_237) (OpT.int2 rfl rfl (dl rfl rfl) rfl rfl ?_)
          refine TL'.step (.on rfl rfl rfl c_237) (OpT.move rfl (dl rfl rfl) rfl ?_)
          rcases bif_some h with ⟨c_243, h⟩ | ⟨c_243, h⟩
          · refine TL'.step (.on rfl rfl rfl c_243) (OpT.move rfl (dl rfl rfl) rfl ?_)
            refine TL'.step (.on rfl rfl rfl c_243) (OpT.int2 rfl rfl (dl rfl rfl) rfl rfl ?_)
            refine TL'.step (.on rfl rfl rfl c_237) (OpT.pickT rfl (dl rfl rfl) rfl c_243 rfl ?_)
            refine sp rfl (OpT.pickF rfl (dl rfl rfl) rfl c_237 rfl ?_)
            refine mv rfl rfl rfl rfl rfl ?_
            rcases bif_some h with ⟨c_244, h⟩ | ⟨c_244, h⟩
            · refine TL'.passU (.off _ _ _ _ rfl rfl rfl c_244) (dl rfl rfl) ?_
              refine TL'.passU (.off _ _ _ _ rfl rfl rfl c_244) (dl rfl rfl) ?_
              refine TL'.passU (.off _ _ _ _ rfl rfl rfl c_244) (dl rfl rfl) ?_
              refine TL'.passU (.gone _ _ _ rfl rfl rfl) (dl rfl rfl) ?_
              refine TL'.passU (.gone _ _ _ rfl rfl rfl) (dl rfl rfl) ?_
              refine TL'.passU (.off _ _ _ _ rfl rfl rfl c_244) (dl rfl rfl) ?_
              refine sp rfl (OpT.pickT rfl (dl rfl rfl) rfl c_244 rfl ?_)
              refine asg rfl rfl rfl rfl rfl ?_
              refine TL'.nil (thenS_normal ?_)
              refine T.by_turn ?_ (l5_PrintBytes_j2_T K x0 x1 x5_0_2 x6_0_3 x7_0_4 true h)
              exact Turn.rp (.cons rfl (.cons rfl (.cons rfl (.cons rfl (.cons rfl (.cons rfl (.nil _))))))) (.c .z (.c .z (.c .z (.n _))))
            · refine TL'.step (.on rfl rfl rfl c_244) (OpT.move rfl (dl rfl rfl) rfl ?_)
              refine TL'.step (.on rfl rfl rfl c_244) (OpT.int2 rfl rfl (dl rfl rfl) rfl rfl ?_)
              refine TL'.step (.on rfl rfl rfl c_244) (OpT.move rfl (dl rfl rfl) rfl ?_)
              rcases bif_some h with ⟨c_245, h⟩ | ⟨c_245, h⟩
              · refine TL'.step (.on rfl rfl rfl c_245) (OpT.move rfl (dl rfl rfl) rfl ?_)
                refine TL'.step (.on rfl rfl rfl c_245) (OpT.int2 rfl rfl (dl rfl rfl) rfl rfl ?_)
                refine TL'.step (.on rfl rfl rfl c_244) (OpT.pickT rfl (dl rfl rfl) rfl c_245 rfl ?_)
                refine sp rfl (OpT.pickF rfl (dl rfl rfl) rfl c_244 rfl ?_)
                refine asg rfl rfl rfl rfl rfl ?_
                refine TL'.nil (thenS_normal ?_)
                refine T.by_turn ?_ (l5_PrintBytes_j2_T K x0 x1 x5_0_2 x6_0_3 x7_0_4 (decide (x0 ≤ (57 : Int))) h)
                exact Turn.rp (.cons rfl (.cons rfl (.cons rfl (.cons rfl (.cons rfl (.cons rfl (.nil _))))))) (.c .z (.c .z (.c .z (.n _))))
              · refine TL'.passU (.off _ _ _ _ rfl rfl rfl c_245) (dl rfl rfl) ?_
                refine TL'.passU (.off _ _ _ _ rfl rfl rfl c_245) (dl rfl rfl) ?_
                refine TL'.step (.on rfl rfl rfl c_244) (OpT.pickF rfl (dl rfl rfl) rfl c_245 rfl ?_)
                refine sp rfl (OpT.pickF rfl (dl rfl rfl) rfl c_244 rfl ?_)
                refine asg rfl rfl rfl rfl rfl ?_
                refine TL'.nil (thenS_normal ?_)
                refine T.by_turn ?_ (l5_PrintBytes_j2_T K x0 x1 x5_0_2 x6_0_3 x7_0_4 false h)
                exact Turn.rp (.cons rfl (.cons rfl (.cons rfl (.cons rfl (.cons rfl (.cons rfl (.nil _))))))) (.c .z (.c .z (.c .z (.n _))))
          · refine TL'.passU (.off _ _ _ _ rfl rfl rfl c_243) (dl rfl rfl) ?_
            refine TL'.passU (.off _ _ _ _ rfl rfl rfl c_243) (dl rfl rfl) ?_
            refine TL'.step (.on rfl rfl rfl c_237) (OpT.pickF rfl (dl rfl rfl) rfl c_243 rfl ?_)
            refine sp rfl (OpT.pickF rfl (dl rfl rfl) rfl c_237 rfl ?_)
            refine mv rfl rfl rfl rfl rfl ?_
            refine TL'.step (.on rfl rfl rfl rfl) (OpT.move rfl (dl rfl rfl) rfl ?_)
            refine TL'.step (.on rfl rfl rfl rfl) (OpT.int2 rfl rfl (dl rfl rfl) rfl rfl ?_)
            refine TL'.step (.on rfl rfl rfl rfl) (OpT.move rfl (dl rfl rfl) rfl ?_)
            rcases bif_some h with ⟨c_246, h⟩ | ⟨c_246, h⟩
            · refine TL'.step (.on rfl rfl rfl c_246) (OpT.move rfl (dl rfl rfl) rfl ?_)
              refine TL'.step (.on rfl rfl rfl c_246) (OpT.int2 rfl rfl (dl rfl rfl) rfl rfl ?_)
              refine TL'.step (.on rfl rfl rfl rfl) (OpT.pickT rfl (dl rfl rfl) rfl c_246 rfl ?_)
              refine sp rfl (OpT.pickF rfl (dl rfl rfl) rfl rfl rfl ?_)
              refine asg rfl rfl rfl rfl rfl ?_
              refine TL'.nil (thenS_normal ?_)
              refine T.by_turn ?_ (l5_PrintBytes_j2_T K x0 x1 x5_0_2 x6_0_3 x7_0_4 (decide (x0 ≤ (57 : Int))) h)
              exact Turn.rp (.cons rfl (.cons rfl (.cons rfl (.cons rfl (.cons rfl (.cons rfl (.nil _))))))) (.c .z (.c .z (.c .z (.n _))))
            · refine TL'.passU (.off _ _ _ _ rfl rfl rfl c_246) (dl rfl rfl) ?_
              refine TL'.passU (.off _ _ _ _ rfl rfl rfl c_246) (dl rfl rfl) ?_
              refine TL'.step (.on rfl rfl rfl rfl) (OpT.pickF rfl (dl rfl rfl) rfl c_246 rfl ?_)
              refine sp rfl (OpT.pickF rfl (dl rfl rfl) rfl rfl rfl ?_)
              refine asg rfl rfl rfl rfl rfl ?_
              refine TL'.nil (thenS_normal ?_)
              refine T.by_turn ?_ (l5_PrintBytes_j2_T K x0 x1 x5_0_2 x6_0_3 x7_0_4 false h)
              exact Turn.rp (.cons rfl (.cons rfl (.cons rfl (.cons rfl (.cons rfl (.cons rfl (.nil _))))))) (.c .z (.c .z (.c .z (.n _))))
      · refine TL'.passU (.off _ _ _ _ rfl rfl rfl c_236) (dl rfl rfl) ?_
        refine TL'.passU (.off _ _ _ _ rfl rfl rfl c_236) (dl rfl rfl) ?_
        refine sp rfl (OpT.pickF rfl (dl rfl rfl) rfl c_236 rfl ?_)
        refine mv rfl rfl rfl rfl rfl ?_
        refine TL'.step (.on rfl rfl rfl rfl) (OpT.move rfl (dl rfl rfl) rfl ?_)
        refine TL'.step (.on rfl rfl rfl rfl) (OpT.int2 rfl rfl (dl rfl rfl) rfl rfl ?_)
        refine TL'.step (.on rfl rfl rfl rfl) (OpT.move rfl (dl rfl rfl) rfl ?_)
        rcases bif_some h with ⟨c_247, h⟩ | ⟨c_247, h⟩
        · refine TL'.step (.on rfl rfl rfl c_247) (OpT.move rfl (dl rfl rfl) rfl ?_)
          refine TL'.step (.on rfl rfl rfl c_247) (OpT.int2 rfl rfl (dl rfl rfl) rfl rfl ?_)
          refine TL'.step (.on rfl rfl rfl rfl) (OpT.pickT rfl (dl rfl rfl) rfl c_247 rfl ?_)
          refine sp rfl (OpT.pickF rfl (dl rfl rfl) rfl rfl rfl ?_)
          refine mv rfl rfl rfl rfl rfl ?_
          rcases bif_some h with ⟨c_248, h⟩ | ⟨c_248, h⟩
          · refine TL'.passU (.off _ _ _ _ rfl rfl rfl c_248) (dl rfl rfl) ?_
            refine TL'.passU (.off _ _ _ _ rfl rfl rfl c_248) (dl rfl rfl) ?_
            refine TL'.passU (.off _ _ _ _ rfl rfl rfl c_248) (dl rfl rfl) ?_
            refine TL'.passU (.gone _ _ _ rfl rfl rfl) (dl rfl rfl) ?_
            refine TL'.passU (.gone _ _ _ rfl rfl rfl) (dl rfl rfl) ?_
            refine TL'.passU (.off _ _ _ _ rfl rfl rfl c_248) (dl rfl rfl) ?_
            refine sp rfl (OpT.pickT rfl (dl rfl rfl) rfl c_248 rfl ?_)
            refine asg rfl rfl rfl rfl rfl ?_
            refine TL'.nil (thenS_normal ?_)
            refine T.by_turn ?_ (l5_PrintBytes_j2_T K x0 x1 x5_0_2 x6_0_3 x7_0_4 true h)
            exact Turn.rp (.cons rfl (.cons rfl (.cons rfl (.cons rfl (.cons rfl (.cons rfl (.nil _))))))) (.c .z (.c .z (.c .z (.n _))))
          · refine TL'.step (.on rfl rfl rfl c_248) (OpT.move rfl (dl rfl rfl) rfl ?_)
            refine TL'.step (.on rfl rfl rfl c_248) (OpT.int2 rfl rfl (dl rfl rfl) rfl rfl ?_)
            refine TL'.step (.on rfl rfl rfl c_248) (OpT.move rfl (dl rfl rfl) rfl ?_)
            rcases bif_some h with ⟨c_249, h⟩ | ⟨c_249, h⟩
            · refine TL'.step (.on rfl rfl rfl c_249) (OpT.move rfl (dl rfl rfl) rfl ?_)
              refine TL'.step (.on rfl rfl rfl c_249) (OpT.int2 rfl rfl (dl rfl rfl) rfl rfl ?_)
              refine TL'.step (.on rfl rfl rfl c_248) (OpT.pickT rfl (dl rfl rfl) rfl c_249 rfl ?_)
              refine sp rfl (OpT.pickF rfl (dl rfl rfl) rfl c_248 rfl ?_)
              refine asg rfl rfl rfl rfl rfl ?_
              refine TL'.nil (thenS_normal ?_)
              refine T.by_turn ?_ (l5_PrintBytes_j2_T K x0 x1 x5_0_2 x6_0_3 x7_0_4 (decide (x0 ≤ (57 : Int))) h)
              exact Turn.rp (.cons rfl (.cons rfl (.cons rfl (.cons rfl (.cons rfl (.cons rfl (.nil _))))))) (.c .z (.c .z (.c .z (.n _))))
            · refine TL'.passU (.off _ _ _ _ rfl rfl rfl c_249) (dl rfl rfl) ?_
              refine TL'.passU (.off _ _ _ _ rfl rfl rfl c_249) (dl rfl rfl) ?_
              refine TL'.step (.on rfl rfl rfl c_248) (OpT.pickF rfl (dl rfl rfl) rfl c_249 rfl ?_)
              refine sp rfl (OpT.pickF rfl (dl rfl rfl) rfl c_248 rfl ?_)
              refine asg rfl rfl rfl rfl rfl ?_
              refine TL'.nil (thenS_normal ?_)
              refine T.by_turn ?_ (l5_PrintBytes_j2_T K x0 x1 x5_0_2 x6_0_3 x7_0_4 false h)
              exact Turn.rp (.cons rfl (.cons rfl (.cons rfl (.cons rfl (.cons rfl (.cons rfl (.nil _))))))) (.c .z (.c .z (.c .z (.n _))))
        · refine TL'.passU (.off _ _ _ _ rfl rfl rfl c_247) (dl rfl rfl) ?_
          refine TL'.passU (.off _ _ _ _ rfl rfl rfl c_247) (dl rfl rfl) ?_
          refine TL'.step (.on rfl rfl rfl rfl) (OpT.pickF rfl (dl rfl rfl) rfl c_247 rfl ?_)
          refine sp rfl (OpT.pickF rfl (dl rfl rfl) rfl rfl rfl ?_)
          refine mv rfl rfl rfl rfl rfl ?_
          refine TL'.step (.on rfl rfl rfl rfl) (OpT.move rfl (dl rfl rfl) rfl ?_)
          refine TL'.step (.on rfl rfl rfl rfl) (OpT.int2 rfl rfl (dl rfl rfl) rfl rfl ?_)
          refine TL'.step (.on rfl rfl rfl rfl) (OpT.move rfl (dl rfl rfl) rfl ?_)
          rcases bif_some h with ⟨c_250, h⟩ | ⟨c_250, h⟩
          · refine TL'.step (.on rfl rfl rfl c_250) (OpT.move rfl (dl rfl rfl) rfl ?_)
            refine TL'.step (.on rfl rfl rfl c_250) (OpT.int2 rfl rfl (dl rfl rfl) rfl rfl ?_)
            refine TL'.step (.on rfl rfl rfl rfl) (OpT.pickT rfl (dl rfl rfl) rfl c_250 rfl ?_)
            refine sp rfl (OpT.pickF rfl (dl rfl rfl) rfl rfl rfl ?_)
            refine asg rfl rfl rfl rfl rfl ?_
            refine TL'.nil (thenS_normal ?_)
            refine T.by_turn ?_ (l5_PrintBytes_j2_T K x0 x1 x5_0_2 x6_0_3 x7_0_4 (decide (x0 ≤ (57 : Int))) h)
            exact Turn.rp (.cons rfl (.cons rfl (.cons rfl (.cons rfl (.cons rfl (.cons rfl (.nil _))))))) (.c .z (.c .z (.c .z (.n _))))
          · refine TL'.passU (.off _ _ _ _ rfl rfl rfl c_250) (dl rfl rfl) ?_
            refine TL'.passU (.off _ _ _ _ rfl rfl rfl c_250) (dl rfl rfl) ?_
            refine TL'.step (.on rfl rfl rfl rfl) (OpT.pickF rfl (dl rfl rfl) rfl c_250 rfl ?_)
            refine sp rfl (OpT.pickF rfl (dl rfl rfl) rfl rfl rfl ?_)
            refine asg rfl rfl rfl rfl rfl ?_
            refine TL'.nil (thenS_normal ?_)
            refine T.by_turn ?_ (l5_PrintBytes_j2_T K x0 x1 x5_0_2 x6_0_3 x7_0_4 false h)
            exact Turn.rp (.cons rfl (.cons rfl (.cons rfl (.cons rfl (.cons rfl (.cons rfl (.nil _))))))) (.c .z (.c .z (.c .z (.n _))))

theorem l5_PrintBytes_T (K : Nat) {x0 : Int} {x1 : Int} {r : Bool} (h : l5_PrintBytes K x0 x1 = some r) : CallR Tryd.prog 4 [.int .u8 x0, .int .u8 x1] [.tab 1 pow10V, .ro 2 deBruijnD, .ro 3 deBruijn32D] (.bool r) := by
  refine CallT.intro Tryd.func4 rfl (Nat.le_of_ble_eq_true rfl) ?_
  show T Tryd.prog 84 (Code.at [] (codeOf Tryd.f4)) ⟨paramSlots 0 [.int .u8 x0, .int .u8 x1], [.tab 1 pow10V, .ro 2 deBruijnD, .ro 3 deBruijn32D]⟩ (l5_PrintBytes_q r)
  unfold l5_PrintBytes at h
  refine T.seq ?_
  refine T.regionL ?_
  refine asg rfl rfl rfl rfl rfl ?_
  refine TL'.nil (thenS_normal ?_)
  refine T.seq ?_
  refine T.regionL ?_
  obtain ⟨v_226, e_227, h⟩ := bind_some h
  refine sp rfl (OpT.callRoA rfl (dl rfl rfl) Tryd.func11 rfl rfl Args.nil (.tab 0 rfl (.cons 1 rfl (.cons 2 rfl (.nil)))) (l5_shown_T K e_227) ?_)
  refine asg rfl rfl rfl rfl rfl ?_
  refine TL'.nil (thenS_normal ?_)
  refine T.seq ?_
  refine T.regionL ?_
  refine mv rfl rfl rfl rfl rfl ?_
  obtain ⟨v_228, e_229, h⟩ := bind_some h
  refine sp rfl (OpT.callRoA rfl (dl rfl rfl) Tryd.func12 rfl rfl (Args.cons rfl Args.nil) (.cons 1 rfl (.cons 2 rfl (.nil))) (print_Byte_T K e_229) ?_)
  refine mv rfl rfl rfl rfl rfl ?_
  obtain ⟨v_230, e_231, h⟩ := bind_some h
  refine sp rfl (OpT.callRoA rfl (dl rfl rfl) Tryd.func12 rfl rfl (Args.cons rfl Args.nil) (.cons 1 rfl (.cons 2 rfl (.nil))) (print_Byte_T K e_231) ?_)
  refine asg rfl rfl rfl rfl rfl ?_
  refine asg rfl rfl rfl rfl rfl ?_
  refine TL'.nil (thenS_normal ?_)
  refine T.seq ?_
  refine T.seq ?_
  refine T.regionL ?_
  refine mv rfl rfl rfl rfl rfl ?_
  refine sp rfl (OpT.lenStr rfl (dl rfl rfl) Tryd.underlying9 rfl ?_)
  refine mv rfl rfl rfl rfl rfl ?_
  refine TL'.nil (thenS_normal ?_)
  refine T.block ?_
  refine T.loop ?_
  refine TL.by_turn ?_ (l5_PrintBytes_l0_T K K x0 x1 v_226 v_228 v_230 (v_228.size : Int) (0 : Int) h)
  exact Turn.rp (.cons rfl (.cons rfl (.cons rfl (.cons rfl (.cons rfl (.cons rfl (.cons rfl (.nil _)))))))) (.c .z (.c .z (.c .z (.n _))))

end Go.Rv

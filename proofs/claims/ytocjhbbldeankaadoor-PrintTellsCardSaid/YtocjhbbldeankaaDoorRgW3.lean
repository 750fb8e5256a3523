/- Each function computes what its plain text says: printed by a program of ours. -/
import Derived.Test.YtocjhbbldeankaaDoorRgW2
namespace Go.Rv
open Go.Proofs
set_option maxRecDepth 100000
set_option maxHeartbeats 4000000
set_option linter.unusedVariables false
abbrev sy_digit_q (r : Bool) : Exit → St → Prop := retS Tryd.prog Tryd.f74 (fun y t => y = (.bool r) ∧ t = [])
theorem sy_digit_T (K : Nat) {x0 : Int} {r : Bool} (h : sy_digit K x0 = some r) : CallR Tryd.prog 74 [.int .u8 x0] [] (.bool r) := by
 refine CallT.intro Tryd.func74 rfl (nb rfl) ?_
 show T Tryd.prog 9 (Code.at [] (codeOf Tryd.f74)) ⟨paramSlots 0 [.int .u8 x0], []⟩ (sy_digit_q r)
 unfold sy_digit at h
 refine T.seq ?_
 refine T.rL ?_
 refine aw rfl ?_
 refine TL'.nil (tN ?_)
 refine T.seq ?_
 refine T.rL ?_
 refine mw rfl ?_
 refine sp rfl (OpT.int2 rfl rfl (dk rfl) rfl rfl ?_)
 refine mw rfl ?_
 rcases bif_some h with ⟨c_5, h⟩ | ⟨c_5, h⟩
 refine TL'.step (.on rfl rfl rfl c_5) (OpT.move rfl (dk rfl) rfl ?_)
 refine TL'.step (.on rfl rfl rfl c_5) (OpT.int2 rfl rfl (dk rfl) rfl rfl ?_)
 refine sp rfl (OpT.pickT rfl (dk rfl) rfl c_5 rfl ?_)
 refine aw rfl ?_
 refine TL'.nil (tN ?_)
 refine T.ret ?_
 exact Fin.done (.cons _ _ _ _ (.tmp 2 _ rfl) .nil) (by cases h; exact ⟨rfl, rfl⟩)
 refine TL'.passU (.off _ _ _ _ rfl rfl rfl c_5) (dk rfl) ?_
 refine TL'.passU (.off _ _ _ _ rfl rfl rfl c_5) (dk rfl) ?_
 refine sp rfl (OpT.pickF rfl (dk rfl) rfl c_5 rfl ?_)
 refine aw rfl ?_
 refine TL'.nil (tN ?_)
 refine T.ret ?_
 exact Fin.done (.cons _ _ _ _ (.tmp 2 _ rfl) .nil) (by cases h; exact ⟨rfl, rfl⟩)
abbrev sy_Name_q (r : Bool) : Exit → St → Prop := retS Tryd.prog Tryd.f56 (fun y t => y = (.bool r) ∧ t = [])
abbrev sy_Name_qs11 (r : Bool) : Exit → St → Prop := thenS (fun s' => T Tryd.prog 34 (Code.at [1, 1] (codeOf Tryd.f56)) s' ((sy_Name_q r))) ((sy_Name_q r))
abbrev sy_Name_qb0x11 (r : Bool) : Exit → St → Prop := inBlockS 0 ((sy_Name_qs11 r))
abbrev sy_Name_ql1010 (r : Bool) : Exit → St → Prop := thenS (fun s' => TL Tryd.prog 34 (Code.at [1, 0, 1, 0, 0] (codeOf Tryd.f56)) s' ((sy_Name_qb0x11 r))) ((sy_Name_qb0x11 r))
abbrev sy_Name_qs10100111 (r : Bool) : Exit → St → Prop := thenS (fun s' => T Tryd.prog 34 (Code.at [1, 0, 1, 0, 0, 1, 1, 1] (codeOf Tryd.f56)) s' ((sy_Name_ql1010 r))) ((sy_Name_ql1010 r))
abbrev sy_Name_qb1_0x10100111 (r : Bool) : Exit → St → Prop := inBlockS 1 ((sy_Name_qs10100111 r))
theorem sy_Name_j1_T {r : Bool} (K : Nat) (h : sy_Name_j1 K = some r) : T Tryd.prog 34 (Code.at [1, 0, 1, 0, 0, 1, 1, 0, 0, 1, 1, 0] (codeOf Tryd.f56)) ⟨[], []⟩ (sy_Name_qb1_0x10100111 r) := by
 unfold sy_Name_j1 at h
 refine T.seq ?_
 refine T.rL ?_
 refine aw rfl ?_
 refine TL'.nil (tN ?_)
 refine T.ret (inBlock_ret (thenS_ret (thenS_ret (inBlock_ret (thenS_ret ?_)))))
 exact Fin.done (.cons _ _ _ _ (.tmp 2 _ rfl) .nil) (by cases h; exact ⟨rfl, rfl⟩)
theorem sy_Name_l0_T {r : Bool} (K : Nat) : ∀ (k : Nat), ∀ (x0 : ByteArray) (x5_0_1 : Int) (x6_0_2 : Int), sy_Name_l0 K k x0 x5_0_1 x6_0_2 = some r → TL Tryd.prog 34 (Code.at [1, 0, 1, 0, 0] (codeOf Tryd.f56)) ⟨[(0, .str x0), (5, .int .i64 x5_0_1), (6, .int .i64 x6_0_2)], []⟩ (sy_Name_qb0x11 r) := by
  intro k
  induction k with
  | zero =>
    intro x0 x5_0_1 x6_0_2 h
    cases (show (none : Option Bool) = some r from h)
  | succ k ih =>
    intro x0 x5_0_1 x6_0_2 h
    rw [sy_Name_l0] at h
    refine TL.round ?_
    refine T.seq ?_
    refine T.rL ?_
    refine sp rfl (OpT.int2 rfl rfl (dl rfl rfl) rfl rfl ?_)
    refine TL'.nil (tN ?_)
    refine T.seq ?_
    rcases bif_some h with ⟨c_75, h⟩ | ⟨c_75, h⟩
    · refine T.condT rfl c_75 ?_
      refine T.skip (tN ?_)
      refine T.seq ?_
      refine T.block ?_
      refine T.seq ?_
      refine T.rL ?_
      refine mv rfl rfl rfl rfl rfl ?_
      refine asg rfl rfl rfl rfl rfl ?_
      refine TL'.nil (tN ?_)
      refine T.seq ?_
      refine T.rL ?_
      refine mv rfl rfl rfl rfl rfl ?_
      refine mv rfl rfl rfl rfl rfl ?_
      obtain ⟨g_76, h⟩ := ck_some h
      refine sp rfl (OpT.indexStr rfl (dl rfl rfl) Tryd.underlying9 rfl rfl g_76.1 g_76.2 ?_)
      obtain ⟨v_77, e_78, h⟩ := bind_some h
      refine sp rfl (OpT.callPA rfl (dl rfl rfl) Tryd.func73 rfl rfl (Args.cons rfl Args.nil) (CallR.nil (sy_letter_T K e_78)) ?_)
      refine sp rfl (OpT.not rfl (dl rfl rfl) rfl ?_)
      refine mv rfl rfl rfl rfl rfl ?_
      rcases bif_some h with ⟨c_79, h⟩ | ⟨c_79, h⟩
      · refine TL'.step (.on rfl rfl rfl c_79) (OpT.move rfl (dl rfl rfl) rfl ?_)
        refine TL'.step (.on rfl rfl rfl c_79) (OpT.int2 rfl rfl (dl rfl rfl) rfl rfl ?_)
        refine TL'.step (.on rfl rfl rfl c_79) (OpT.move rfl (dl rfl rfl) rfl ?_)
        rcases bif_some h with ⟨c_80, h⟩ | ⟨c_80, h⟩
        · refine TL'.passU (.off _ _ _ _ rfl rfl rfl c_80) (dl rfl rfl) ?_
          refine TL'.passU (.off _ _ _ _ rfl rfl rfl c_80) (dl rfl rfl) ?_
          refine TL'.passU (.off _ _ _ _ rfl rfl rfl c_80) (dl rfl rfl) ?_
          refine TL'.passU (.off _ _ _ _ rfl rfl rfl c_80) (dl rfl rfl) ?_
          refine TL'.passU (.off _ _ _ _ rfl rfl rfl c_80) (dl rfl rfl) ?_
          refine TL'.step (.on rfl rfl rfl c_79) (OpT.pickT rfl (dl rfl rfl) rfl c_80 rfl ?_)
          refine sp rfl (OpT.pickT rfl (dl rfl rfl) rfl c_79 rfl ?_)
          refine TL'.nil (tN ?_)
          refine T.condT rfl rfl ?_
          refine T.by_turn ?_ (sy_Name_j1_T K h)
          exact Turn.rp (.nil _) (.n _)
        · refine TL'.step (.on rfl rfl rfl c_80) (OpT.move rfl (dl rfl rfl) rfl ?_)
          refine TL'.step (.on rfl rfl rfl c_80) (OpT.move rfl (dl rfl rfl) rfl ?_)
          refine TL'.step (.on rfl rfl rfl c_80) (OpT.indexStr rfl (dl rfl rfl) Tryd.underlying9 rfl rfl g_76.1 g_76.2 ?_)
          obtain ⟨v_81, e_82, h⟩ := bind_some h
          refine TL'.step (.on rfl rfl rfl c_80) (OpT.callPA rfl (dl rfl rfl) Tryd.func74 rfl rfl (Args.cons rfl Args.nil) (CallR.nil (sy_digit_T K e_82)) ?_)
          refine TL'.step (.on rfl rfl rfl c_80) (OpT.not rfl (dl rfl rfl) rfl ?_)
          refine TL'.step (.on rfl rfl rfl c_79) (OpT.pickF rfl (dl rfl rfl) rfl c_80 rfl ?_)
          refine sp rfl (OpT.pickT rfl (dl rfl rfl) rfl c_79 rfl ?_)
          refine TL'.nil (tN ?_)
          rcases bif_some h with ⟨c_83, h⟩ | ⟨c_83, h⟩
          · refine T.condT rfl c_83 ?_
            refine T.by_turn ?_ (sy_Name_j1_T K h)
            exact Turn.rp (.nil _) (.n _)
          · refine T.condF rfl c_83 ?_
            refine T.skip (inBlock_normal (tN ?_))
            refine T.rL ?_
            refine sp rfl (OpT.int2 rfl rfl (dl rfl rfl) rfl rfl ?_)
            refine mv rfl rfl rfl rfl rfl ?_
            refine TL'.nil (tN ?_)
            refine TL.by_turn ?_ (ih x0 x5_0_1 (IntKind.i64.wrap (x6_0_2 + (1 : Int))) h)
            exact Turn.rp (.cons rfl (.cons rfl (.cons rfl (.nil _)))) (.n _)
      · refine TL'.passU (.off _ _ _ _ rfl rfl rfl c_79) (dl rfl rfl) ?_
        refine TL'.passU (.off _ _ _ _ rfl rfl rfl c_79) (dl rfl rfl) ?_
        refine TL'.passU (.off _ _ _ _ rfl rfl rfl c_79) (dl rfl rfl) ?_
        refine TL'.passU (.gone _ _ _ rfl rfl rfl) (dl rfl rfl) ?_
        refine TL'.passU (.gone _ _ _ rfl rfl rfl) (dl rfl rfl) ?_
        refine TL'.passU (.gone _ _ _ rfl rfl rfl) (dl rfl rfl) ?_
        refine TL'.passU (.gone _ _ _ rfl rfl rfl) (dl rfl rfl) ?_
        refine TL'.passU (.gone _ _ _ rfl rfl rfl) (dl rfl rfl) ?_
        refine TL'.passU (.off _ _ _ _ rfl rfl rfl c_79) (dl rfl rfl) ?_
        refine sp rfl (OpT.pickF rfl (dl rfl rfl) rfl c_79 rfl ?_)
        refine TL'.nil (tN ?_)
        refine T.condF rfl rfl ?_
        refine T.skip (inBlock_normal (tN ?_))
        refine T.rL ?_
        refine sp rfl (OpT.int2 rfl rfl (dl rfl rfl) rfl rfl ?_)
        refine mv rfl rfl rfl rfl rfl ?_
        refine TL'.nil (tN ?_)
        refine TL.by_turn ?_ (ih x0 x5_0_1 (IntKind.i64.wrap (x6_0_2 + (1 : Int))) h)
        exact Turn.rp (.cons rfl (.cons rfl (.cons rfl (.nil _)))) (.n _)
    · refine T.condF rfl c_75 ?_
      refine T.exit (thenS_exit (thenS_exit (inBlock_exit (tN ?_))))
      refine T.seq ?_
      refine T.rL ?_
      refine mv rfl rfl rfl rfl rfl ?_
      refine sp rfl (OpT.lenStr rfl (dl rfl rfl) Tryd.underlying9 rfl ?_)
      refine sp rfl (OpT.int2 rfl rfl (dl rfl rfl) rfl rfl ?_)
      refine mv rfl rfl rfl rfl rfl ?_
      rcases bif_some h with ⟨c_84, h⟩ | ⟨c_84, h⟩
      · refine TL'.step (.on rfl rfl rfl c_84) (OpT.move rfl (dl rfl rfl) rfl ?_)
        refine TL'.step (.on rfl rfl rfl c_84) (OpT.lenStr rfl (dl rfl rfl) Tryd.underlying9 rfl ?_)
        refine TL'.step (.on rfl rfl rfl c_84) (OpT.int2 rfl rfl (dl rfl rfl) rfl rfl ?_)
        refine sp rfl (OpT.pickT rfl (dl rfl rfl) rfl c_84 rfl ?_)
        refine asg rfl rfl rfl rfl rfl ?_
        refine TL'.nil (tN ?_)
        refine T.ret ?_
        exact Fin.done (.cons _ _ _ _ (.tmp 2 _ rfl) .nil) (by cases h; exact ⟨rfl, rfl⟩)
      · refine TL'.passU (.off _ _ _ _ rfl rfl rfl c_84) (dl rfl rfl) ?_
        refine TL'.passU (.off _ _ _ _ rfl rfl rfl c_84) (dl rfl rfl) ?_
        refine TL'.passU (.off _ _ _ _ rfl rfl rfl c_84) (dl rfl rfl) ?_
        refine sp rfl (OpT.pickF rfl (dl rfl rfl) rfl c_84 rfl ?_)
        refine asg rfl rfl rfl rfl rfl ?_
        refine TL'.nil (tN ?_)
        refine T.ret ?_
        exact Fin.done (.cons _ _ _ _ (.tmp 2 _ rfl) .nil) (by cases h; exact ⟨rfl, rfl⟩)
theorem sy_Name_T (K : Nat) {x0 : ByteArray} {r : Bool} (h : sy_Name K x0 = some r) : CallR Tryd.prog 56 [.str x0] [] (.bool r) := by
 refine CallT.intro Tryd.func56 rfl (nb rfl) ?_
 show T Tryd.prog 34 (Code.at [] (codeOf Tryd.f56)) ⟨paramSlots 0 [.str x0], []⟩ (sy_Name_q r)
 unfold sy_Name at h
 refine T.seq ?_
 refine T.rL ?_
 refine aw rfl ?_
 refine TL'.nil (tN ?_)
 refine T.seq ?_
 refine T.seq ?_
 refine T.rL ?_
 refine mw rfl ?_
 refine sp rfl (OpT.lenStr rfl (dk rfl) ul9 rfl ?_)
 refine mw rfl ?_
 refine TL'.nil (tN ?_)
 refine T.block ?_
 refine T.loop ?_
 refine TL.by_turn ?_ (sy_Name_l0_T K K x0 (x0.size : Int) (0 : Int) h)
 exact Turn.rp (.cons rfl (.cons rfl (.cons rfl (.nil _)))) (.n _)
abbrev sy_shaped_q (r : Bool) : Exit → St → Prop := retS Tryd.prog Tryd.f36 (fun y t => y = (.bool r) ∧ t = [])
abbrev sy_shaped_qs1111 (r : Bool) : Exit → St → Prop := thenS (fun s' => T Tryd.prog 104 (Code.at [1, 1, 1, 1] (codeOf Tryd.f36)) s' ((sy_shaped_q r))) ((sy_shaped_q r))
abbrev sy_shaped_qb0x1111 (r : Bool) : Exit → St → Prop := inBlockS 0 ((sy_shaped_qs1111 r))
abbrev sy_shaped_qs111010111011 (r : Bool) : Exit → St → Prop := thenS (fun s' => T Tryd.prog 104 (Code.at [1, 1, 1, 0, 1, 0, 1, 1, 1, 0, 1, 1] (codeOf Tryd.f36)) s' ((sy_shaped_qb0x1111 r))) ((sy_shaped_qb0x1111 r))
theorem sy_shaped_j0_T {r : Bool} (K : Nat) (x4_0_12 : Int) (x0 : aNd) (y3_0_7 : Arr4) (y3_0_9 : Int) (y3_0_10 : Int) (y3_0_11 : ByteArray) (b1_0 : Nat) (b3_0 : Nat) (h : sy_shaped_j0 K x4_0_12 x0 y3_0_7 y3_0_9 y3_0_10 y3_0_11 = some r) : T Tryd.prog 104 (Code.at [1, 1, 1, 1] (codeOf Tryd.f36)) ⟨[(1, .ptr b1_0 0), (3, .ptr b3_0 0), (4, .int .i64 x4_0_12)], [.box b1_0 42 [.d (.int .u8 x0.Op), .d (.int .u64 x0.S.a0), .d (.int .u64 x0.S.a1), .d (.int .u64 x0.S.a2), .d (.int .u64 x0.S.a3), .d (.sl false 1 (x0.L.map (cI .i64))), .d (.int .i64 x0.Lo), .d (.int .i64 x0.Hi), .d (.str x0.Name)], .box b3_0 42 [.d (.int .u8 x0.Op), .d (.int .u64 y3_0_7.a0), .d (.int .u64 y3_0_7.a1), .d (.int .u64 y3_0_7.a2), .d (.int .u64 y3_0_7.a3), .d (.sl false 1 (([] : List Int).map (cI .i64))), .d (.int .i64 y3_0_9), .d (.int .i64 y3_0_10), .d (.str y3_0_11)]]⟩ (sy_shaped_q r) := by
 unfold sy_shaped_j0 at h
 refine T.seq ?_
 refine T.rL ?_
 refine mw rfl ?_
 refine sp rfl (OpT.int2 rfl rfl (dk rfl) rfl rfl ?_)
 refine mw rfl ?_
 rcases bif_some h with ⟨c_120, h⟩ | ⟨c_120, h⟩
 refine TL'.step (.on rfl rfl rfl c_120) (OpT.fieldPtr rfl (dk rfl) ul42 rfl i25 (by decide) rfl ?_)
 refine TL'.step (.on rfl rfl rfl c_120) (OpT.loadBoxAgg (i := 0) (l := (Arr4.dc .u64 x0.S)) rfl (dk rfl) ul25 rfl i25 rfl rfl rfl rfl ?_)
 refine TL'.step (.on rfl rfl rfl c_120) (OpT.fieldPtr rfl (dk rfl) ul42 rfl i25 (by decide) rfl ?_)
 refine TL'.step (.on rfl rfl rfl c_120) (OpT.loadBoxAgg (i := 1) (l := (Arr4.dc .u64 y3_0_7)) rfl (dk rfl) ul25 rfl i25 rfl rfl rfl rfl ?_)
 refine TL'.step (.on rfl rfl rfl c_120) (OpT.intsEql (k := .u64) (xs := [x0.S.a0, x0.S.a1, x0.S.a2, x0.S.a3]) (ys := [y3_0_7.a0, y3_0_7.a1, y3_0_7.a2, y3_0_7.a3]) rfl (dk rfl) ul25 ul23 i23 Tryd.eqGuardType25 rfl rfl rfl rfl rfl rfl (Arr4.same_eq x0.S y3_0_7) ?_)
 refine sp rfl (OpT.pickT rfl (dk rfl) rfl c_120 rfl ?_)
 refine mw rfl ?_
 rcases bif_some h with ⟨c_121, h⟩ | ⟨c_121, h⟩
 refine TL'.step (.on rfl rfl rfl c_121) (OpT.fieldPtr rfl (dk rfl) ul42 rfl i3 (by decide) rfl ?_)
 refine TL'.step (.on rfl rfl rfl c_121) (OpT.loadBox (i := 0) rfl (dk rfl) ul3 rfl rfl rfl rfl ?_)
 refine TL'.step (.on rfl rfl rfl c_121) (OpT.fieldPtr rfl (dk rfl) ul42 rfl i3 (by decide) rfl ?_)
 refine TL'.step (.on rfl rfl rfl c_121) (OpT.loadBox (i := 1) rfl (dk rfl) ul3 rfl rfl rfl rfl ?_)
 refine TL'.step (.on rfl rfl rfl c_121) (OpT.int2 rfl rfl (dk rfl) rfl rfl ?_)
 refine sp rfl (OpT.pickT rfl (dk rfl) rfl c_121 rfl ?_)
 refine mw rfl ?_
 rcases bif_some h with ⟨c_122, h⟩ | ⟨c_122, h⟩
 refine TL'.step (.on rfl rfl rfl c_122) (OpT.fieldPtr rfl (dk rfl) ul42 rfl i3 (by decide) rfl ?_)
 refine TL'.step (.on rfl rfl rfl c_122) (OpT.loadBox (i := 0) rfl (dk rfl) ul3 rfl rfl rfl rfl ?_)
 refine TL'.step (.on rfl rfl rfl c_122) (OpT.fieldPtr rfl (dk rfl) ul42 rfl i3 (by decide) rfl ?_)
 refine TL'.step (.on rfl rfl rfl c_122) (OpT.loadBox (i := 1) rfl (dk rfl) ul3 rfl rfl rfl rfl ?_)
 refine TL'.step (.on rfl rfl rfl c_122) (OpT.int2 rfl rfl (dk rfl) rfl rfl ?_)
 refine sp rfl (OpT.pickT rfl (dk rfl) rfl c_122 rfl ?_)
 refine mw rfl ?_
 rcases bif_some h with ⟨c_123, h⟩ | ⟨c_123, h⟩
 refine TL'.step (.on rfl rfl rfl c_123) (OpT.fieldPtr rfl (dk rfl) ul42 rfl i9 (by decide) rfl ?_)
 refine TL'.step (.on rfl rfl rfl c_123) (OpT.loadBox (i := 0) rfl (dk rfl) ul9 rfl rfl rfl rfl ?_)
 refine TL'.step (.on rfl rfl rfl c_123) (OpT.fieldPtr rfl (dk rfl) ul42 rfl i9 (by decide) rfl ?_)
 refine TL'.step (.on rfl rfl rfl c_123) (OpT.loadBox (i := 1) rfl (dk rfl) ul9 rfl rfl rfl rfl ?_)
 refine TL'.step (.on rfl rfl rfl c_123) (OpT.str_eql rfl (dk rfl) rfl rfl ?_)
 refine sp rfl (OpT.pickT rfl (dk rfl) rfl c_123 rfl ?_)
 refine aw rfl ?_
 refine TL'.nil (tN ?_)
 refine T.ret ?_
 exact Fin.done (.cons _ _ _ _ (.tmp 2 _ rfl) .nil) (by cases h; exact ⟨rfl, rfl⟩)
 refine TL'.passU (.off _ _ _ _ rfl rfl rfl c_123) (dk rfl) ?_
 refine TL'.passU (.off _ _ _ _ rfl rfl rfl c_123) (dk rfl) ?_
 refine TL'.passU (.off _ _ _ _ rfl rfl rfl c_123) (dk rfl) ?_
 refine TL'.passU (.off _ _ _ _ rfl rfl rfl c_123) (dk rfl) ?_
 refine TL'.passU (.off _ _ _ _ rfl rfl rfl c_123) (dk rfl) ?_
 refine sp rfl (OpT.pickF rfl (dk rfl) rfl c_123 rfl ?_)
 refine aw rfl ?_
 refine TL'.nil (tN ?_)
 refine T.ret ?_
 exact Fin.done (.cons _ _ _ _ (.tmp 2 _ rfl) .nil) (by cases h; exact ⟨rfl, rfl⟩)
 refine TL'.passU (.off _ _ _ _ rfl rfl rfl c_122) (dk rfl) ?_
 refine TL'.passU (.off _ _ _ _ rfl rfl rfl c_122) (dk rfl) ?_
 refine TL'.passU (.off _ _ _ _ rfl rfl rfl c_122) (dk rfl) ?_
 refine TL'.passU (.off _ _ _ _ rfl rfl rfl c_122) (dk rfl) ?_
 refine TL'.passU (.off _ _ _ _ rfl rfl rfl c_122) (dk rfl) ?_
 refine sp rfl (OpT.pickF rfl (dk rfl) rfl c_122 rfl ?_)
 refine mw rfl ?_
 refine TL'.passU (.off _ _ _ _ rfl rfl rfl rfl) (dk rfl) ?_
 refine TL'.passU (.off _ _ _ _ rfl rfl rfl rfl) (dk rfl) ?_
 refine TL'.passU (.off _ _ _ _ rfl rfl rfl rfl) (dk rfl) ?_
 refine TL'.passU (.off _ _ _ _ rfl rfl rfl rfl) (dk rfl) ?_
 refine TL'.passU (.off _ _ _ _ rfl rfl rfl rfl) (dk rfl) ?_
 refine sp rfl (OpT.pickF rfl (dk rfl) rfl rfl rfl ?_)
 refine aw rfl ?_
 refine TL'.nil (tN ?_)
 refine T.ret ?_
 exact Fin.done (.cons _ _ _ _ (.tmp 2 _ rfl) .nil) (by cases h; exact ⟨rfl, rfl⟩)
 refine TL'.passU (.off _ _ _ _ rfl rfl rfl c_121) (dk rfl) ?_
 refine TL'.passU (.off _ _ _ _ rfl rfl rfl c_121) (dk rfl) ?_
 refine TL'.passU (.off _ _ _ _ rfl rfl rfl c_121) (dk rfl) ?_
 refine TL'.passU (.off _ _ _ _ rfl rfl rfl c_121) (dk rfl) ?_
 refine TL'.passU (.off _ _ _ _ rfl rfl rfl c_121) (dk rfl) ?_
 refine sp rfl (OpT.pickF rfl (dk rfl) rfl c_121 rfl ?_)
 refine mw rfl ?_
 refine TL'.passU (.off _ _ _ _ rfl rfl rfl rfl) (dk rfl) ?_
 refine TL'.passU (.off _ _ _ _ rfl rfl rfl rfl) (dk rfl) ?_
 refine TL'.passU (.off _ _ _ _ rfl rfl rfl rfl) (dk rfl) ?_
 refine TL'.passU (.off _ _ _ _ rfl rfl rfl rfl) (dk rfl) ?_
 refine TL'.passU (.off _ _ _ _ rfl rfl rfl rfl) (dk rfl) ?_
 refine sp rfl (OpT.pickF rfl (dk rfl) rfl rfl rfl ?_)
 refine mw rfl ?_
 refine TL'.passU (.off _ _ _ _ rfl rfl rfl rfl) (dk rfl) ?_
 refine TL'.passU (.off _ _ _ _ rfl rfl rfl rfl) (dk rfl) ?_
 refine TL'.passU (.off _ _ _ _ rfl rfl rfl rfl) (dk rfl) ?_
 refine TL'.passU (.off _ _ _ _ rfl rfl rfl rfl) (dk rfl) ?_
 refine TL'.passU (.off _ _ _ _ rfl rfl rfl rfl) (dk rfl) ?_
 refine sp rfl (OpT.pickF rfl (dk rfl) rfl rfl rfl ?_)
 refine aw rfl ?_
 refine TL'.nil (tN ?_)
 refine T.ret ?_
 exact Fin.done (.cons _ _ _ _ (.tmp 2 _ rfl) .nil) (by cases h; exact ⟨rfl, rfl⟩)
 refine TL'.passU (.off _ _ _ _ rfl rfl rfl c_120) (dk rfl) ?_
 refine TL'.passU (.off _ _ _ _ rfl rfl rfl c_120) (dk rfl) ?_
 refine TL'.passU (.off _ _ _ _ rfl rfl rfl c_120) (dk rfl) ?_
 refine TL'.passU (.off _ _ _ _ rfl rfl rfl c_120) (dk rfl) ?_
 refine TL'.passU (.off _ _ _ _ rfl rfl rfl c_120) (dk rfl) ?_
 refine sp rfl (OpT.pickF rfl (dk rfl) rfl c_120 rfl ?_)
 refine mw rfl ?_
 refine TL'.passU (.off _ _ _ _ rfl rfl rfl rfl) (dk rfl) ?_
 refine TL'.passU (.off _ _ _ _ rfl rfl rfl rfl) (dk rfl) ?_
 refine TL'.passU (.off _ _ _ _ rfl rfl rfl rfl) (dk rfl) ?_
 refine TL'.passU (.off _ _ _ _ rfl rfl rfl rfl) (dk rfl) ?_
 refine TL'.passU (.off _ _ _ _ rfl rfl rfl rfl) (dk rfl) ?_
 refine sp rfl (OpT.pickF rfl (dk rfl) rfl rfl rfl ?_)
 refine mw rfl ?_
 refine TL'.passU (.off _ _ _ _ rfl rfl rfl rfl) (dk rfl) ?_
 refine TL'.passU (.off _ _ _ _ rfl rfl rfl rfl) (dk rfl) ?_
 refine TL'.passU (.off _ _ _ _ rfl rfl rfl rfl) (dk rfl) ?_
 refine TL'.passU (.off _ _ _ _ rfl rfl rfl rfl) (dk rfl) ?_
 refine TL'.passU (.off _ _ _ _ rfl rfl rfl rfl) (dk rfl) ?_
 refine sp rfl (OpT.pickF rfl (dk rfl) rfl rfl rfl ?_)
 refine mw rfl ?_
 refine TL'.passU (.off _ _ _ _ rfl rfl rfl rfl) (dk rfl) ?_
 refine TL'.passU (.off _ _ _ _ rfl rfl rfl rfl) (dk rfl) ?_
 refine TL'.passU (.off _ _ _ _ rfl rfl rfl rfl) (dk rfl) ?_
 refine TL'.passU (.off _ _ _ _ rfl rfl rfl rfl) (dk rfl) ?_
 refine TL'.passU (.off _ _ _ _ rfl rfl rfl rfl) (dk rfl) ?_
 refine sp rfl (OpT.pickF rfl (dk rfl) rfl rfl rfl ?_)
 refine aw rfl ?_
 refine TL'.nil (tN ?_)
 refine T.ret ?_
 exact Fin.done (.cons _ _ _ _ (.tmp 2 _ rfl) .nil) (by cases h; exact ⟨rfl, rfl⟩)
theorem sy_shaped_j1_T {r : Bool} (K : Nat) (h : sy_shaped_j1 K = some r) : T Tryd.prog 104 (Code.at [1, 1, 1, 0, 1, 0, 1, 1, 1, 0, 1, 0, 1, 0] (codeOf Tryd.f36)) ⟨[], []⟩ (sy_shaped_qs111010111011 r) := by
 unfold sy_shaped_j1 at h
 refine T.seq ?_
 refine T.rL ?_
 refine aw rfl ?_
 refine TL'.nil (tN ?_)
 refine T.ret (thenS_ret (inBlock_ret (thenS_ret ?_)))
 exact Fin.done (.cons _ _ _ _ (.tmp 2 _ rfl) .nil) (by cases h; exact ⟨rfl, rfl⟩)
theorem sy_shaped_j2_T {r : Bool} (K : Nat) (x4_2_12 : Int) (x0 : aNd) (y3_2_7 : Arr4) (b1_2 : Nat) (b3_2 : Nat) (h : sy_shaped_j2 K x4_2_12 x0 y3_2_7 = some r) : T Tryd.prog 104 (Code.at [1, 1, 1, 0, 1, 0, 1, 1, 1, 0, 1, 0, 1, 1] (codeOf Tryd.f36)) ⟨[(1, .ptr b1_2 0), (3, .ptr b3_2 0), (4, .int .i64 x4_2_12)], [.box b1_2 42 [.d (.int .u8 x0.Op), .d (.int .u64 x0.S.a0), .d (.int .u64 x0.S.a1), .d (.int .u64 x0.S.a2), .d (.int .u64 x0.S.a3), .d (.sl false 1 (x0.L.map (cI .i64))), .d (.int .i64 x0.Lo), .d (.int .i64 x0.Hi), .d (.str x0.Name)], .box b3_2 42 [.d (.int .u8 x0.Op), .d (.int .u64 y3_2_7.a0), .d (.int .u64 y3_2_7.a1), .d (.int .u64 y3_2_7.a2), .d (.int .u64 y3_2_7.a3), .d (.sl false 1 (([] : List Int).map (cI .i64))), .d (.int .i64 x0.Lo), .d (.int .i64 x0.Hi), .d (.str (⟨#[]⟩ : ByteArray))]]⟩ (sy_shaped_qs111010111011 r) := by
 unfold sy_shaped_j2 at h
 refine T.skip (tN ?_)
 refine T.rL ?_
 refine mw rfl ?_
 refine sp rfl (OpT.int2 rfl rfl (dk rfl) rfl rfl ?_)
 refine aw rfl ?_
 refine TL'.nil (inBlock_normal (tN ?_))
 refine T.by_turn ?_ (sy_shaped_j0_T K (IntKind.i64.wrap (x4_2_12 - (1 : Int))) x0 y3_2_7 x0.Lo x0.Hi (⟨#[]⟩ : ByteArray) b1_2 b3_2 h)
 exact Turn.rp (.cons rfl (.cons rfl (.cons rfl (.nil _)))) (.c .z (.c .z (.n _)))
theorem sy_shaped_j3_T {r : Bool} (K : Nat) (x4_3_12 : Int) (x0 : aNd) (x58_3_14 : Bool) (y3_3_7 : Arr4) (b1_3 : Nat) (b3_3 : Nat) (h : sy_shaped_j3 K x4_3_12 x0 x58_3_14 y3_3_7 = some r) : T Tryd.prog 104 (Code.at [1, 1, 1, 0, 1, 0, 1, 1, 1, 1, 1] (codeOf Tryd.f36)) ⟨[(1, .ptr b1_3 0), (3, .ptr b3_3 0), (4, .int .i64 x4_3_12), (12, .int .u8 x0.Op), (58, .bool x58_3_14)], [.box b1_3 42 [.d (.int .u8 x0.Op), .d (.int .u64 x0.S.a0), .d (.int .u64 x0.S.a1), .d (.int .u64 x0.S.a2), .d (.int .u64 x0.S.a3), .d (.sl false 1 (x0.L.map (cI .i64))), .d (.int .i64 x0.Lo), .d (.int .i64 x0.Hi), .d (.str x0.Name)], .box b3_3 42 [.d (.int .u8 x0.Op), .d (.int .u64 y3_3_7.a0), .d (.int .u64 y3_3_7.a1), .d (.int .u64 y3_3_7.a2), .d (.int .u64 y3_3_7.a3), .d (.sl false 1 (([] : List Int).map (cI .i64))), .d (.int .i64 (0 : Int)), .d (.int .i64 (0 : Int)), .d (.str (⟨#[]⟩ : ByteArray))]]⟩ (sy_shaped_qb0x1111 r) := by
 unfold sy_shaped_j3 at h
 rcases bif_some h with ⟨c_132, h⟩ | ⟨c_132, h⟩
 refine T.condT rfl c_132 ?_
 refine T.seq ?_
 refine T.seq ?_
 refine T.rL ?_
 refine mw rfl ?_
 refine sp rfl (OpT.int2 rfl rfl (dk rfl) rfl rfl ?_)
 refine TL'.nil (tN ?_)
 rcases bif_some h with ⟨c_133, h⟩ | ⟨c_133, h⟩
 refine T.condT rfl c_133 ?_
 refine T.seq ?_
 refine T.rL ?_
 refine aw rfl ?_
 refine TL'.nil (tN ?_)
 refine T.ret (thenS_ret (inBlock_ret (thenS_ret ?_)))
 exact Fin.done (.cons _ _ _ _ (.tmp 2 _ rfl) .nil) (by cases h; exact ⟨rfl, rfl⟩)
 refine T.condF rfl c_133 ?_
 refine T.skip (tN ?_)
 refine T.rL ?_
 refine aw rfl ?_
 refine TL'.nil (inBlock_normal (tN ?_))
 refine T.by_turn ?_ (sy_shaped_j0_T K (0 : Int) x0 y3_3_7 (0 : Int) (0 : Int) (⟨#[]⟩ : ByteArray) b1_3 b3_3 h)
 exact Turn.rp (.cons rfl (.cons rfl (.cons rfl (.nil _)))) (.c .z (.c .z (.n _)))
 refine T.condF rfl c_132 ?_
 refine T.seq ?_
 refine T.rL ?_
 refine sp rfl (OpT.int2 rfl rfl (dk rfl) rfl rfl ?_)
 refine aw rfl ?_
 refine TL'.nil (tN ?_)
 rcases bif_some h with ⟨c_134, h⟩ | ⟨c_134, h⟩
 refine T.condT rfl c_134 ?_
 refine T.seq ?_
 refine T.rL ?_
 refine sp rfl (OpT.fieldPtr rfl (dk rfl) ul42 rfl i9 (by decide) rfl ?_)
 refine sp rfl (OpT.loadBox (i := 0) rfl (dk rfl) ul9 rfl rfl rfl rfl ?_)
 refine sp rfl (OpT.fieldPtr rfl (dk rfl) ul42 rfl i9 (by decide) rfl ?_)
 refine sp rfl (OpT.storeTo (i := 1) (cells' := [.d (.int .u8 x0.Op), .d (.int .u64 y3_3_7.a0), .d (.int .u64 y3_3_7.a1), .d (.int .u64 y3_3_7.a2), .d (.int .u64 y3_3_7.a3), .d (.sl false 1 (([] : List Int).map (cI .i64))), .d (.int .i64 (0 : Int)), .d (.int .i64 (0 : Int)), .d (.str x0.Name)]) rfl rfl i9 rfl rfl rfl (nb rfl) rfl ?_)
 refine TL'.nil (tN ?_)
 refine T.seq ?_
 refine T.rL ?_
 refine sp rfl (OpT.fieldPtr rfl (dk rfl) ul42 rfl i9 (by decide) rfl ?_)
 refine sp rfl (OpT.loadBox (i := 0) rfl (dk rfl) ul9 rfl rfl rfl rfl ?_)
 obtain ⟨v_135, e_136, h⟩ := bind_some h
 refine sp rfl (OpT.callPA rfl (dk rfl) Tryd.func56 rfl rfl (Args.cons rfl Args.nil) (CallR.nil (sy_Name_T K e_136)) ?_)
 refine sp rfl (OpT.not rfl (dk rfl) rfl ?_)
 refine TL'.nil (tN ?_)
 rcases bif_some h with ⟨c_137, h⟩ | ⟨c_137, h⟩
 refine T.condT rfl c_137 ?_
 refine T.seq ?_
 refine T.rL ?_
 refine aw rfl ?_
 refine TL'.nil (tN ?_)
 refine T.ret (inBlock_ret (thenS_ret ?_))
 exact Fin.done (.cons _ _ _ _ (.tmp 2 _ rfl) .nil) (by cases h; exact ⟨rfl, rfl⟩)
 refine T.condF rfl c_137 ?_
 refine T.skip (inBlock_normal (tN ?_))
 refine T.by_turn ?_ (sy_shaped_j0_T K x4_3_12 x0 y3_3_7 (0 : Int) (0 : Int) x0.Name b1_3 b3_3 h)
 exact Turn.rp (.cons rfl (.cons rfl (.cons rfl (.nil _)))) (.c .z (.c .z (.n _)))
 refine T.condF rfl c_134 ?_
 refine T.seq ?_
 refine T.rL ?_
 refine sp rfl (OpT.int2 rfl rfl (dk rfl) rfl rfl ?_)
 refine aw rfl ?_
 refine TL'.nil (tN ?_)
 rcases bif_some h with ⟨c_138, h⟩ | ⟨c_138, h⟩
 refine T.condT rfl c_138 ?_
 refine T.skip (inBlock_normal (tN ?_))
 refine T.by_turn ?_ (sy_shaped_j0_T K x4_3_12 x0 y3_3_7 (0 : Int) (0 : Int) (⟨#[]⟩ : ByteArray) b1_3 b3_3 h)
 exact Turn.rp (.cons rfl (.cons rfl (.cons rfl (.nil _)))) (.c .z (.c .z (.n _)))
 refine T.condF rfl c_138 ?_
 refine T.seq ?_
 refine T.rL ?_
 refine aw rfl ?_
 refine TL'.nil (tN ?_)
 refine T.ret (inBlock_ret (thenS_ret ?_))
 exact Fin.done (.cons _ _ _ _ (.tmp 2 _ rfl) .nil) (by cases h; exact ⟨rfl, rfl⟩)
theorem sy_shaped_T (K : Nat) {x0 : aNd} {r : Bool} (h : sy_shaped K x0 = some r) : CallR Tryd.prog 36 [.agg [.int .u8 x0.Op, .int .u64 x0.S.a0, .int .u64 x0.S.a1, .int .u64 x0.S.a2, .int .u64 x0.S.a3, .sl false 1 (x0.L.map (cI .i64)), .int .i64 x0.Lo, .int .i64 x0.Hi, .str x0.Name]] [] (.bool r) := by
 refine CallT.intro Tryd.func36 rfl (nb rfl) ?_
 show T Tryd.prog 104 (Code.at [] (codeOf Tryd.f36)) ⟨paramSlots 0 [.agg [.int .u8 x0.Op, .int .u64 x0.S.a0, .int .u64 x0.S.a1, .int .u64 x0.S.a2, .int .u64 x0.S.a3, .sl false 1 (x0.L.map (cI .i64)), .int .i64 x0.Lo, .int .i64 x0.Hi, .str x0.Name]], []⟩ (sy_shaped_q r)
 unfold sy_shaped at h
 refine T.seq ?_
 refine T.rL ?_
 refine sp rfl (OpT.boxAgg rfl (dk rfl) rfl (fun b_116 => ?_))
 refine aw rfl ?_
 refine TL'.nil (tN ?_)
 refine T.seq ?_
 refine T.rL ?_
 refine sp rfl (OpT.fieldPtr rfl (dk rfl) ul42 rfl i5 (by decide) rfl ?_)
 refine sp rfl (OpT.loadBox (i := 0) rfl (dk rfl) ul5 rfl rfl rfl rfl ?_)
 refine sp rfl (OpT.thenTurn (OpT.build (l := [.int .u8 x0.Op, .int .u64 (Arr4.mk 0 0 0 0).a0, .int .u64 (Arr4.mk 0 0 0 0).a1, .int .u64 (Arr4.mk 0 0 0 0).a2, .int .u64 (Arr4.mk 0 0 0 0).a3, .ex (.slice none 0 0), .int .i64 (0 : Int), .int .i64 (0 : Int), .str (⟨#[]⟩ : ByteArray)]) rfl (dk rfl) (built_struct (pl := [(0, 1), (1, 4), (5, 1), (6, 1), (7, 1), (8, 1)]) ul42 i42 rfl) (all1 rfl) rfl rfl rfl) (Turn.weakSlotP 7 (l := [.int .u8 x0.Op, .int .u64 (Arr4.mk 0 0 0 0).a0, .int .u64 (Arr4.mk 0 0 0 0).a1, .int .u64 (Arr4.mk 0 0 0 0).a2, .int .u64 (Arr4.mk 0 0 0 0).a3, .ex (.slice none 0 0), .int .i64 (0 : Int), .int .i64 (0 : Int), .str (⟨#[]⟩ : ByteArray)]) (l' := [.int .u8 x0.Op, .int .u64 (Arr4.mk 0 0 0 0).a0, .int .u64 (Arr4.mk 0 0 0 0).a1, .int .u64 (Arr4.mk 0 0 0 0).a2, .int .u64 (Arr4.mk 0 0 0 0).a3, .sl false 1 (([] : List Int).map (cI .i64)), .int .i64 (0 : Int), .int .i64 (0 : Int), .str (⟨#[]⟩ : ByteArray)]) (.cons (.same _) (.cons (.same _) (.cons (.same _) (.cons (.same _) (.cons (.same _) (.cons (.nil _ _) (.cons (.same _) (.cons (.same _) (.cons (.same _) (.refl _))))))))))) ?_)
 refine sp rfl (OpT.alloc' rfl (dk rfl) i42 rfl (fun b_117 => ?_))
 refine sp rfl (OpT.storeAggTo (i := 0) (cells' := [.d (.int .u8 x0.Op), .d (.int .u64 (Arr4.mk 0 0 0 0).a0), .d (.int .u64 (Arr4.mk 0 0 0 0).a1), .d (.int .u64 (Arr4.mk 0 0 0 0).a2), .d (.int .u64 (Arr4.mk 0 0 0 0).a3), .d (.sl false 1 (([] : List Int).map (cI .i64))), .d (.int .i64 (0 : Int)), .d (.int .i64 (0 : Int)), .d (.str (⟨#[]⟩ : ByteArray))]) rfl rfl i42 rfl rfl rfl rfl (nb rfl) rfl ?_)
 refine TL'.nil (tN ?_)
 refine T.seq ?_
 refine T.rL ?_
 refine sp rfl (OpT.fieldPtr rfl (dk rfl) ul42 rfl i40 (by decide) rfl ?_)
 refine sp rfl (OpT.loadBox (i := 1) rfl (dk rfl) ul40 rfl rfl rfl rfl ?_)
 refine sp rfl (OpT.lenSlM (xs := x0.L) (f := (cI .i64)) rfl (dk rfl) ul40 rfl ?_)
 refine aw rfl ?_
 refine TL'.nil (tN ?_)
 refine T.seq ?_
 refine T.seq ?_
 refine T.rL ?_
 refine sp rfl (OpT.fieldPtr rfl (dk rfl) ul42 rfl i5 (by decide) rfl ?_)
 refine sp rfl (OpT.loadBox (i := 1) rfl (dk rfl) ul5 rfl rfl rfl rfl ?_)
 refine TL'.nil (tN ?_)
 refine T.block ?_
 refine T.seq ?_
 refine T.rL ?_
 refine sp rfl (OpT.int2 rfl rfl (dk rfl) rfl rfl ?_)
 refine aw rfl ?_
 refine TL'.nil (tN ?_)
 rcases bif_some h with ⟨c_118, h⟩ | ⟨c_118, h⟩
 refine T.condT rfl c_118 ?_
 refine T.seq ?_
 refine T.rL ?_
 refine sp rfl (OpT.fieldPtr rfl (dk rfl) ul42 rfl i25 (by decide) rfl ?_)
 refine sp rfl (OpT.loadBoxAgg (i := 1) (l := (Arr4.dc .u64 x0.S)) rfl (dk rfl) ul25 rfl i25 rfl rfl rfl rfl ?_)
 refine sp rfl (OpT.fieldPtr rfl (dk rfl) ul42 rfl i25 (by decide) rfl ?_)
 refine sp rfl (OpT.storeAggTo (i := 0) (cells' := [.d (.int .u8 x0.Op), .d (.int .u64 x0.S.a0), .d (.int .u64 x0.S.a1), .d (.int .u64 x0.S.a2), .d (.int .u64 x0.S.a3), .d (.sl false 1 (([] : List Int).map (cI .i64))), .d (.int .i64 (0 : Int)), .d (.int .i64 (0 : Int)), .d (.str (⟨#[]⟩ : ByteArray))]) rfl rfl i25 rfl rfl rfl rfl (nb rfl) rfl ?_)
 refine TL'.nil (tN ?_)
 refine T.seq ?_
 refine T.rL ?_
 refine sp rfl (OpT.fieldPtr rfl (dk rfl) ul42 rfl i25 (by decide) rfl ?_)
 refine sp rfl (OpT.loadBoxAgg (i := 1) (l := (Arr4.dc .u64 x0.S)) rfl (dk rfl) ul25 rfl i25 rfl rfl rfl rfl ?_)
 refine sp rfl (OpT.build (l := (Arr4.dc .u64 (Arr4.mk 0 0 0 0))) rfl (dk rfl) (built_arr ul25 i25 i23) (all1 rfl) rfl rfl ?_)
 refine sp rfl (OpT.intsEql (k := .u64) (xs := [x0.S.a0, x0.S.a1, x0.S.a2, x0.S.a3]) (ys := [(Arr4.mk 0 0 0 0).a0, (Arr4.mk 0 0 0 0).a1, (Arr4.mk 0 0 0 0).a2, (Arr4.mk 0 0 0 0).a3]) rfl (dk rfl) ul25 ul23 i23 Tryd.eqGuardType25 rfl rfl rfl rfl rfl rfl (Arr4.same_eq x0.S (Arr4.mk 0 0 0 0)) ?_)
 refine TL'.nil (tN ?_)
 rcases bif_some h with ⟨c_119, h⟩ | ⟨c_119, h⟩
 refine T.condT rfl c_119 ?_
 refine T.seq ?_
 refine T.rL ?_
 refine aw rfl ?_
 refine TL'.nil (tN ?_)
 refine T.ret (inBlock_ret (thenS_ret ?_))
 exact Fin.done (.cons _ _ _ _ (.tmp 2 _ rfl) .nil) (by cases h; exact ⟨rfl, rfl⟩)
 refine T.condF rfl c_119 ?_
 refine T.skip (inBlock_normal (tN ?_))
 refine T.by_turn ?_ (sy_shaped_j0_T K (x0.L.length : Int) x0 x0.S (0 : Int) (0 : Int) (⟨#[]⟩ : ByteArray) b_116 b_117 h)
 exact Turn.rp (.cons rfl (.cons rfl (.cons rfl (.nil _)))) (.c (.s .z) (.c .z (.n _)))
 refine T.condF rfl c_118 ?_
 refine T.seq ?_
 refine T.rL ?_
 refine sp rfl (OpT.int2 rfl rfl (dk rfl) rfl rfl ?_)
 refine aw rfl ?_
 refine TL'.nil (tN ?_)
 rcases bif_some h with ⟨c_124, h⟩ | ⟨c_124, h⟩
 refine T.condT rfl c_124 ?_
 refine T.seq ?_
 refine DG.start ?_
 refine DG.step (c := ⟨some 24, .ptr b_116 (0 + 6), [(1, .ptr b_116 0)], [], []⟩) (fun t hm => One.step rfl (.free rfl) (OpT.fieldPtr rfl (dk rfl) ul42 rfl i3 (by decide) hm.s0 rfl)) (Ct.mo rfl rfl) ?_
 refine DG.step (c := ⟨some 25, .int .i64 x0.Lo, [(24, .ptr b_116 (0 + 6))], [(1, .box b_116 42 [.d (.int .u8 x0.Op), .d (.int .u64 x0.S.a0), .d (.int .u64 x0.S.a1), .d (.int .u64 x0.S.a2), .d (.int .u64 x0.S.a3), .d (.sl false 1 (x0.L.map (cI .i64))), .d (.int .i64 x0.Lo), .d (.int .i64 x0.Hi), .d (.str x0.Name)])], []⟩) (fun t hm => One.step rfl (.free rfl) (OpT.loadBox (i := 1) rfl (dk rfl) ul3 rfl hm.s0 hm.o0 rfl rfl)) (Ct.mo rfl rfl) ?_
 refine DG.step (c := ⟨some 26, .ptr b_116 (0 + 7), [(1, .ptr b_116 0)], [], []⟩) (fun t hm => One.step rfl (.free rfl) (OpT.fieldPtr rfl (dk rfl) ul42 rfl i3 (by decide) hm.s0 rfl)) (Ct.mo rfl rfl) ?_
 refine DG.step (c := ⟨some 27, .int .i64 x0.Hi, [(26, .ptr b_116 (0 + 7))], [(1, .box b_116 42 [.d (.int .u8 x0.Op), .d (.int .u64 x0.S.a0), .d (.int .u64 x0.S.a1), .d (.int .u64 x0.S.a2), .d (.int .u64 x0.S.a3), .d (.sl false 1 (x0.L.map (cI .i64))), .d (.int .i64 x0.Lo), .d (.int .i64 x0.Hi), .d (.str x0.Name)])], []⟩) (fun t hm => One.step rfl (.free rfl) (OpT.loadBox (i := 1) rfl (dk rfl) ul3 rfl hm.s0 hm.o0 rfl rfl)) (Ct.mo rfl rfl) ?_
 refine DG.step (c := ⟨some 28, .ptr b_117 (0 + 6), [(3, .ptr b_117 0)], [], []⟩) (fun t hm => One.step rfl (.free rfl) (OpT.fieldPtr rfl (dk rfl) ul42 rfl i3 (by decide) hm.s0 rfl)) (Ct.mo rfl rfl) ?_
 refine DG.step (c := ⟨none, .any, [(28, .ptr b_117 (0 + 6)), (25, .int .i64 x0.Lo)], [(0, .box b_117 42 [.d (.int .u8 x0.Op), .d (.int .u64 (Arr4.mk 0 0 0 0).a0), .d (.int .u64 (Arr4.mk 0 0 0 0).a1), .d (.int .u64 (Arr4.mk 0 0 0 0).a2), .d (.int .u64 (Arr4.mk 0 0 0 0).a3), .d (.sl false 1 (([] : List Int).map (cI .i64))), .d (.int .i64 (0 : Int)), .d (.int .i64 (0 : Int)), .d (.str (⟨#[]⟩ : ByteArray))])], [(0, .box b_117 42 [.d (.int .u8 x0.Op), .d (.int .u64 (Arr4.mk 0 0 0 0).a0), .d (.int .u64 (Arr4.mk 0 0 0 0).a1), .d (.int .u64 (Arr4.mk 0 0 0 0).a2), .d (.int .u64 (Arr4.mk 0 0 0 0).a3), .d (.sl false 1 (([] : List Int).map (cI .i64))), .d (.int .i64 x0.Lo), .d (.int .i64 (0 : Int)), .d (.str (⟨#[]⟩ : ByteArray))])]⟩) (fun t hm => One.step rfl (.free rfl) (OpT.storeTo (i := 0) (cells' := [.d (.int .u8 x0.Op), .d (.int .u64 (Arr4.mk 0 0 0 0).a0), .d (.int .u64 (Arr4.mk 0 0 0 0).a1), .d (.int .u64 (Arr4.mk 0 0 0 0).a2), .d (.int .u64 (Arr4.mk 0 0 0 0).a3), .d (.sl false 1 (([] : List Int).map (cI .i64))), .d (.int .i64 x0.Lo), .d (.int .i64 (0 : Int)), .d (.str (⟨#[]⟩ : ByteArray))]) rfl rfl i3 hm.s0 hm.s1 hm.o0 (nb rfl) rfl rfl)) (Ct.mo rfl rfl) ?_
 refine DG.step (c := ⟨some 29, .ptr b_117 (0 + 7), [(3, .ptr b_117 0)], [], []⟩) (fun t hm => One.step rfl (.free rfl) (OpT.fieldPtr rfl (dk rfl) ul42 rfl i3 (by decide) hm.s0 rfl)) (Ct.mo rfl rfl) ?_
 refine DG.step (c := ⟨none, .any, [(29, .ptr b_117 (0 + 7)), (27, .int .i64 x0.Hi)], [(0, .box b_117 42 [.d (.int .u8 x0.Op), .d (.int .u64 (Arr4.mk 0 0 0 0).a0), .d (.int .u64 (Arr4.mk 0 0 0 0).a1), .d (.int .u64 (Arr4.mk 0 0 0 0).a2), .d (.int .u64 (Arr4.mk 0 0 0 0).a3), .d (.sl false 1 (([] : List Int).map (cI .i64))), .d (.int .i64 x0.Lo), .d (.int .i64 (0 : Int)), .d (.str (⟨#[]⟩ : ByteArray))])], [(0, .box b_117 42 [.d (.int .u8 x0.Op), .d (.int .u64 (Arr4.mk 0 0 0 0).a0), .d (.int .u64 (Arr4.mk 0 0 0 0).a1), .d (.int .u64 (Arr4.mk 0 0 0 0).a2), .d (.int .u64 (Arr4.mk 0 0 0 0).a3), .d (.sl false 1 (([] : List Int).map (cI .i64))), .d (.int .i64 x0.Lo), .d (.int .i64 x0.Hi), .d (.str (⟨#[]⟩ : ByteArray))])]⟩) (fun t hm => One.step rfl (.free rfl) (OpT.storeTo (i := 0) (cells' := [.d (.int .u8 x0.Op), .d (.int .u64 (Arr4.mk 0 0 0 0).a0), .d (.int .u64 (Arr4.mk 0 0 0 0).a1), .d (.int .u64 (Arr4.mk 0 0 0 0).a2), .d (.int .u64 (Arr4.mk 0 0 0 0).a3), .d (.sl false 1 (([] : List Int).map (cI .i64))), .d (.int .i64 x0.Lo), .d (.int .i64 x0.Hi), .d (.str (⟨#[]⟩ : ByteArray))]) rfl rfl i3 hm.s0 hm.s1 hm.o0 (nb rfl) rfl rfl)) (Ct.mo rfl rfl) ?_
 refine DG.fin (s1 := ⟨[(1, .ptr b_116 0), (3, .ptr b_117 0), (4, .int .i64 (x0.L.length : Int))], [.box b_117 42 [.d (.int .u8 x0.Op), .d (.int .u64 (Arr4.mk 0 0 0 0).a0), .d (.int .u64 (Arr4.mk 0 0 0 0).a1), .d (.int .u64 (Arr4.mk 0 0 0 0).a2), .d (.int .u64 (Arr4.mk 0 0 0 0).a3), .d (.sl false 1 (([] : List Int).map (cI .i64))), .d (.int .i64 x0.Lo), .d (.int .i64 x0.Hi), .d (.str (⟨#[]⟩ : ByteArray))], .box b_116 42 [.d (.int .u8 x0.Op), .d (.int .u64 x0.S.a0), .d (.int .u64 x0.S.a1), .d (.int .u64 x0.S.a2), .d (.int .u64 x0.S.a3), .d (.sl false 1 (x0.L.map (cI .i64))), .d (.int .i64 x0.Lo), .d (.int .i64 x0.Hi), .d (.str x0.Name)]]⟩) (ms := [0, 1, 0, 4, 3, 19, 63, 127]) TrydMixed rfl (by kernel_rfl) (by kernel_rfl) (by kernel_rfl) (.cons rfl (.cons rfl (.cons rfl (.nil _)))) rfl (fun u hu => (tN (T.by_turn hu ?_)))
 refine T.seq ?_
 refine T.seq ?_
 refine T.rL ?_
 refine sp rfl (OpT.fieldPtr rfl (dk rfl) ul42 rfl i3 (by decide) rfl ?_)
 refine sp rfl (OpT.loadBox (i := 1) rfl (dk rfl) ul3 rfl rfl rfl rfl ?_)
 refine sp rfl (OpT.int2 rfl rfl (dk rfl) rfl rfl ?_)
 refine mw rfl ?_
 rcases bif_some h with ⟨c_126, h⟩ | ⟨c_126, h⟩
 refine TL'.passU (.off _ _ _ _ rfl rfl rfl c_126) (dk rfl) ?_
 refine TL'.passU (.off _ _ _ _ rfl rfl rfl c_126) (dk rfl) ?_
 refine TL'.passU (.off _ _ _ _ rfl rfl rfl c_126) (dk rfl) ?_
 refine sp rfl (OpT.pickT rfl (dk rfl) rfl c_126 rfl ?_)
 refine mw rfl ?_
 refine TL'.passU (.off _ _ _ _ rfl rfl rfl rfl) (dk rfl) ?_
 refine TL'.passU (.off _ _ _ _ rfl rfl rfl rfl) (dk rfl) ?_
 refine TL'.passU (.off _ _ _ _ rfl rfl rfl rfl) (dk rfl) ?_
 refine TL'.passU (.off _ _ _ _ rfl rfl rfl rfl) (dk rfl) ?_
 refine TL'.passU (.gone _ _ _ rfl rfl rfl) (dk rfl) ?_
 refine TL'.passU (.gone _ _ _ rfl rfl rfl) (dk rfl) ?_
 refine TL'.passU (.gone _ _ _ rfl rfl rfl) (dk rfl) ?_
 refine TL'.passU (.gone _ _ _ rfl rfl rfl) (dk rfl) ?_
 refine TL'.passU (.gone _ _ _ rfl rfl rfl) (dk rfl) ?_
 refine TL'.passU (.gone _ _ _ rfl rfl rfl) (dk rfl) ?_
 refine TL'.passU (.gone _ _ _ rfl rfl rfl) (dk rfl) ?_
 refine TL'.passU (.gone _ _ _ rfl rfl rfl) (dk rfl) ?_
 refine TL'.passU (.gone _ _ _ rfl rfl rfl) (dk rfl) ?_
 refine TL'.passU (.gone _ _ _ rfl rfl rfl) (dk rfl) ?_
 refine TL'.passU (.gone _ _ _ rfl rfl rfl) (dk rfl) ?_
 refine TL'.passU (.off _ _ _ _ rfl rfl rfl rfl) (dk rfl) ?_
 refine sp rfl (OpT.pickT rfl (dk rfl) rfl rfl rfl ?_)
 refine TL'.nil (tN ?_)
 refine T.condT rfl rfl ?_
 refine T.by_turn ?_ (sy_shaped_j1_T K h)
 exact Turn.rp (.nil _) (.n _)
 refine TL'.step (.on rfl rfl rfl c_126) (OpT.fieldPtr rfl (dk rfl) ul42 rfl i3 (by decide) rfl ?_)
 refine TL'.step (.on rfl rfl rfl c_126) (OpT.loadBox (i := 1) rfl (dk rfl) ul3 rfl rfl rfl rfl ?_)
 refine TL'.step (.on rfl rfl rfl c_126) (OpT.int2 rfl rfl (dk rfl) rfl rfl ?_)
 refine sp rfl (OpT.pickF rfl (dk rfl) rfl c_126 rfl ?_)
 refine mw rfl ?_
 rcases bif_some h with ⟨c_127, h⟩ | ⟨c_127, h⟩
 refine TL'.passU (.off _ _ _ _ rfl rfl rfl c_127) (dk rfl) ?_
 refine TL'.passU (.off _ _ _ _ rfl rfl rfl c_127) (dk rfl) ?_
 refine TL'.passU (.off _ _ _ _ rfl rfl rfl c_127) (dk rfl) ?_
 refine TL'.passU (.off _ _ _ _ rfl rfl rfl c_127) (dk rfl) ?_
 refine TL'.passU (.gone _ _ _ rfl rfl rfl) (dk rfl) ?_
 refine TL'.passU (.gone _ _ _ rfl rfl rfl) (dk rfl) ?_
 refine TL'.passU (.gone _ _ _ rfl rfl rfl) (dk rfl) ?_
 refine TL'.passU (.gone _ _ _ rfl rfl rfl) (dk rfl) ?_
 refine TL'.passU (.gone _ _ _ rfl rfl rfl) (dk rfl) ?_
 refine TL'.passU (.gone _ _ _ rfl rfl rfl) (dk rfl) ?_
 refine TL'.passU (.gone _ _ _ rfl rfl rfl) (dk rfl) ?_
 refine TL'.passU (.gone _ _ _ rfl rfl rfl) (dk rfl) ?_
 refine TL'.passU (.gone _ _ _ rfl rfl rfl) (dk rfl) ?_
 refine TL'.passU (.gone _ _ _ rfl rfl rfl) (dk rfl) ?_
 refine TL'.passU (.gone _ _ _ rfl rfl rfl) (dk rfl) ?_
 refine TL'.passU (.off _ _ _ _ rfl rfl rfl c_127) (dk rfl) ?_
 refine sp rfl (OpT.pickT rfl (dk rfl) rfl c_127 rfl ?_)
 refine TL'.nil (tN ?_)
 refine T.condT rfl rfl ?_
 refine T.by_turn ?_ (sy_shaped_j1_T K h)
 exact Turn.rp (.nil _) (.n _)
 refine TL'.step (.on rfl rfl rfl c_127) (OpT.fieldPtr rfl (dk rfl) ul42 rfl i3 (by decide) rfl ?_)
 refine TL'.step (.on rfl rfl rfl c_127) (OpT.loadBox (i := 1) rfl (dk rfl) ul3 rfl rfl rfl rfl ?_)
 refine TL'.step (.on rfl rfl rfl c_127) (OpT.int2 rfl rfl (dk rfl) rfl rfl ?_)
 refine TL'.step (.on rfl rfl rfl c_127) (OpT.move rfl (dk rfl) rfl ?_)
 rcases bif_some h with ⟨c_128, h⟩ | ⟨c_128, h⟩
 refine TL'.step (.on rfl rfl rfl c_128) (OpT.fieldPtr rfl (dk rfl) ul42 rfl i3 (by decide) rfl ?_)
 refine TL'.step (.on rfl rfl rfl c_128) (OpT.loadBox (i := 1) rfl (dk rfl) ul3 rfl rfl rfl rfl ?_)
 refine TL'.step (.on rfl rfl rfl c_128) (OpT.fieldPtr rfl (dk rfl) ul42 rfl i3 (by decide) rfl ?_)
 refine TL'.step (.on rfl rfl rfl c_128) (OpT.loadBox (i := 1) rfl (dk rfl) ul3 rfl rfl rfl rfl ?_)
 refine TL'.step (.on rfl rfl rfl c_128) (OpT.max2 rfl (dk rfl) rfl rfl ?_)
 refine TL'.step (.on rfl rfl rfl c_128) (OpT.int2 rfl rfl (dk rfl) rfl rfl ?_)
 refine TL'.step (.on rfl rfl rfl c_128) (OpT.move rfl (dk rfl) rfl ?_)
 rcases bif_some h with ⟨c_129, h⟩ | ⟨c_129, h⟩
 refine TL'.passU (.off _ _ _ _ rfl rfl rfl c_129) (dk rfl) ?_
 refine TL'.passU (.off _ _ _ _ rfl rfl rfl c_129) (dk rfl) ?_
 refine TL'.passU (.off _ _ _ _ rfl rfl rfl c_129) (dk rfl) ?_
 refine TL'.step (.on rfl rfl rfl c_128) (OpT.pickT rfl (dk rfl) rfl c_129 rfl ?_)
 refine TL'.step (.on rfl rfl rfl c_127) (OpT.pickT rfl (dk rfl) rfl c_128 rfl ?_)
 refine sp rfl (OpT.pickF rfl (dk rfl) rfl c_127 rfl ?_)
 refine TL'.nil (tN ?_)
 refine T.condT rfl rfl ?_
 refine T.by_turn ?_ (sy_shaped_j1_T K h)
 exact Turn.rp (.nil _) (.n _)
 refine TL'.step (.on rfl rfl rfl c_129) (OpT.fieldPtr rfl (dk rfl) ul42 rfl i3 (by decide) rfl ?_)
 refine TL'.step (.on rfl rfl rfl c_129) (OpT.loadBox (i := 1) rfl (dk rfl) ul3 rfl rfl rfl rfl ?_)
 refine TL'.step (.on rfl rfl rfl c_129) (OpT.int2 rfl rfl (dk rfl) rfl rfl ?_)
 refine TL'.step (.on rfl rfl rfl c_128) (OpT.pickF rfl (dk rfl) rfl c_129 rfl ?_)
 refine TL'.step (.on rfl rfl rfl c_127) (OpT.pickT rfl (dk rfl) rfl c_128 rfl ?_)
 refine sp rfl (OpT.pickF rfl (dk rfl) rfl c_127 rfl ?_)
 refine TL'.nil (tN ?_)
 rcases bif_some h with ⟨c_130, h⟩ | ⟨c_130, h⟩
 refine T.condT rfl c_130 ?_
 refine T.by_turn ?_ (sy_shaped_j1_T K h)
 exact Turn.rp (.nil _) (.n _)
 refine T.condF rfl c_130 ?_
 refine T.by_turn ?_ (sy_shaped_j2_T K (x0.L.length : Int) x0 (Arr4.mk 0 0 0 0) b_116 b_117 h)
 exact Turn.rp (.cons rfl (.cons rfl (.cons rfl (.nil _)))) (.c (.s .z) (.c .z (.n _)))
 refine TL'.passU (.off _ _ _ _ rfl rfl rfl c_128) (dk rfl) ?_
 refine TL'.passU (.off _ _ _ _ rfl rfl rfl c_128) (dk rfl) ?_
 refine TL'.passU (.off _ _ _ _ rfl rfl rfl c_128) (dk rfl) ?_
 refine TL'.passU (.off _ _ _ _ rfl rfl rfl c_128) (dk rfl) ?_
 refine TL'.passU (.off _ _ _ _ rfl rfl rfl c_128) (dk rfl) ?_
 refine TL'.passU (.off _ _ _ _ rfl rfl rfl c_128) (dk rfl) ?_
 refine TL'.passU (.off _ _ _ _ rfl rfl rfl c_128) (dk rfl) ?_
 refine TL'.passU (.gone _ _ _ rfl rfl rfl) (dk rfl) ?_
 refine TL'.passU (.gone _ _ _ rfl rfl rfl) (dk rfl) ?_
 refine TL'.passU (.gone _ _ _ rfl rfl rfl) (dk rfl) ?_
 refine TL'.passU (.off _ _ _ _ rfl rfl rfl c_128) (dk rfl) ?_
 refine TL'.step (.on rfl rfl rfl c_127) (OpT.pickF rfl (dk rfl) rfl c_128 rfl ?_)
 refine sp rfl (OpT.pickF rfl (dk rfl) rfl c_127 rfl ?_)
 refine TL'.nil (tN ?_)
 refine T.condF rfl rfl ?_
 refine T.by_turn ?_ (sy_shaped_j2_T K (x0.L.length : Int) x0 (Arr4.mk 0 0 0 0) b_116 b_117 h)
 exact Turn.rp (.cons rfl (.cons rfl (.cons rfl (.nil _)))) (.c (.s .z) (.c .z (.n _)))
 refine T.condF rfl c_124 ?_
 refine T.seq ?_
 refine T.seq ?_
 refine T.rL ?_
 refine sp rfl (OpT.int2 rfl rfl (dk rfl) rfl rfl ?_)
 refine aw rfl ?_
 refine TL'.nil (tN ?_)
 rcases bif_some h with ⟨c_131, h⟩ | ⟨c_131, h⟩
 refine T.condT rfl c_131 ?_
 refine T.skip (tN ?_)
 refine T.by_turn ?_ (sy_shaped_j3_T K (x0.L.length : Int) x0 (x0.Op == (3 : Int)) (Arr4.mk 0 0 0 0) b_116 b_117 h)
 exact Turn.rp (.cons rfl (.cons rfl (.cons rfl (.cons rfl (.cons rfl (.nil _)))))) (.c (.s .z) (.c .z (.n _)))
 refine T.condF rfl c_131 ?_
 refine T.rL ?_
 refine sp rfl (OpT.int2 rfl rfl (dk rfl) rfl rfl ?_)
 refine aw rfl ?_
 refine TL'.nil (tN ?_)
 refine T.by_turn ?_ (sy_shaped_j3_T K (x0.L.length : Int) x0 (x0.Op == (4 : Int)) (Arr4.mk 0 0 0 0) b_116 b_117 h)
 exact Turn.rp (.cons rfl (.cons rfl (.cons rfl (.cons rfl (.cons rfl (.nil _)))))) (.c (.s .z) (.c .z (.n _)))
abbrev slices_Equal_int_q (r : Bool) : Exit → St → Prop := retS Tryd.prog Tryd.f37 (fun y t => y = (.bool r) ∧ t = [])
abbrev slices_Equal_int_qs111 (r : Bool) : Exit → St → Prop := thenS (fun s' => T Tryd.prog 26 (Code.at [1, 1, 1] (codeOf Tryd.f37)) s' ((slices_Equal_int_q r))) ((slices_Equal_int_q r))
abbrev slices_Equal_int_qb0x111 (r : Bool) : Exit → St → Prop := inBlockS 0 ((slices_Equal_int_qs111 r))
theorem slices_Equal_int_l0_T {r : Bool} (K : Nat) : ∀ (k : Nat), ∀ (x0 : List Int) (x1 : List Int) (x12_0_2 : Int) (x13_0_3 : Int) (flx0 : Bool) (flx1 : Bool), slices_Equal_int_l0 K k x0 x1 x12_0_2 x13_0_3 = some r → TL Tryd.prog 26 (Code.at [1, 1, 0, 1, 0, 0] (codeOf Tryd.f37)) ⟨[(0, .sl flx0 1 (x0.map (cI .i64))), (1, .sl flx1 1 (x1.map (cI .i64))), (12, .int .i64 x12_0_2), (13, .int .i64 x13_0_3)], []⟩ (slices_Equal_int_qb0x111 r) := by
  intro k
  induction k with
  | zero =>
    intro x0 x1 x12_0_2 x13_0_3 flx0 flx1 h
    cases (show (none : Option Bool) = some r from h)
  | succ k ih =>
    intro x0 x1 x12_0_2 x13_0_3 flx0 flx1 h
    rw [slices_Equal_int_l0] at h
    refine TL.round ?_
    refine T.seq ?_
    refine T.rL ?_
    refine sp rfl (OpT.int2 rfl rfl (dl rfl rfl) rfl rfl ?_)
    refine TL'.nil (tN ?_)
    refine T.seq ?_
    rcases bif_some h with ⟨c_110, h⟩ | ⟨c_110, h⟩
    · refine T.condT rfl c_110 ?_
      refine T.skip (tN ?_)
      refine T.seq ?_
      refine T.block ?_
      refine T.seq ?_
      refine T.rL ?_
      refine mv rfl rfl rfl rfl rfl ?_
      refine asg rfl rfl rfl rfl rfl ?_
      refine TL'.nil (tN ?_)
      refine T.seq ?_
      refine DG.start ?_
      refine DG.mv rfl rfl rfl rfl rfl rfl ?_
      refine DG.mv rfl rfl rfl rfl rfl rfl ?_
      obtain ⟨v_116, e_117, h⟩ := bind_some h
      refine DG.step (c := ⟨some 18, .ref [.int .i64 v_116], [(16, .sl flx0 1 (x0.map (cI .i64))), (17, .int .i64 x13_0_3)], [], []⟩) (fun t hm => One.step rfl (.free rfl) (OpT.indexSlM (xs := x0) (f := (cI .i64)) (v := v_116) rfl (dl rfl rfl) Tryd.underlying40 i3 hm.s0 hm.s1 e_117 rfl)) (Ct.mo rfl rfl) ?_
      refine DG.step (c := ⟨some 19, .int .i64 v_116, [(18, .ref [.int .i64 v_116])], [], []⟩) (fun t hm => One.step rfl (.free rfl) (OpT.loadRef rfl (dl rfl rfl) Tryd.underlying3 rfl hm.s0 rfl rfl)) (Ct.mo rfl rfl) ?_
      refine DG.mv rfl rfl rfl rfl rfl rfl ?_
      refine DG.mv rfl rfl rfl rfl rfl rfl ?_
      obtain ⟨v_118, e_119, h⟩ := bind_some h
      refine DG.step (c := ⟨some 22, .ref [.int .i64 v_118], [(20, .sl flx1 1 (x1.map (cI .i64))), (21, .int .i64 x13_0_3)], [], []⟩) (fun t hm => One.step rfl (.free rfl) (OpT.indexSlM (xs := x1) (f := (cI .i64)) (v := v_118) rfl (dl rfl rfl) Tryd.underlying40 i3 hm.s0 hm.s1 e_119 rfl)) (Ct.mo rfl rfl) ?_
      refine DG.step (c := ⟨some 23, .int .i64 v_118, [(22, .ref [.int .i64 v_118])], [], []⟩) (fun t hm => One.step rfl (.free rfl) (OpT.loadRef rfl (dl rfl rfl) Tryd.underlying3 rfl hm.s0 rfl rfl)) (Ct.mo rfl rfl) ?_
      refine DG.step (c := ⟨some 24, .bool (v_116 != v_118), [(19, .int .i64 v_116), (23, .int .i64 v_118)], [], []⟩) (fun t hm => One.step rfl (.free rfl) (OpT.int2 rfl rfl (dl rfl rfl) hm.s0 hm.s1 rfl)) (Ct.mo rfl rfl) ?_
      refine DG.fin (s1 := ⟨[(0, .sl flx0 1 (x0.map (cI .i64))), (1, .sl flx1 1 (x1.map (cI .i64))), (12, .int .i64 x12_0_2), (13, .int .i64 x13_0_3), (24, .bool (v_116 != v_118))], []⟩) (ms := [0, 0, 3, 7, 0, 0, 48, 112, 255]) TrydMixed rfl (by kernel_rfl) (by kernel_rfl) (by kernel_rfl) (.cons rfl (.cons rfl (.cons rfl (.cons rfl (.cons rfl (.nil _)))))) rfl (fun u hu => (tN (T.by_turn hu ?_)))
      rcases bif_some h with ⟨c_120, h⟩ | ⟨c_120, h⟩
      · refine T.condT rfl c_120 ?_
        refine T.seq ?_
        refine T.rL ?_
        refine asg rfl rfl rfl rfl rfl ?_
        refine TL'.nil (tN ?_)
        refine T.ret (inBlock_ret (thenS_ret (thenS_ret (inBlock_ret (thenS_ret ?_)))))
        exact Fin.done (.cons _ _ _ _ (.tmp 4 _ rfl) .nil) (by cases h; exact ⟨rfl, rfl⟩)
      · refine T.condF rfl c_120 ?_
        refine T.skip (inBlock_normal (tN ?_))
        refine T.rL ?_
        refine sp rfl (OpT.int2 rfl rfl (dl rfl rfl) rfl rfl ?_)
        refine mv rfl rfl rfl rfl rfl ?_
        refine TL'.nil (tN ?_)
        refine TL.by_turn ?_ (ih x0 x1 x12_0_2 (IntKind.i64.wrap (x13_0_3 + (1 : Int))) flx0 flx1 h)
        exact Turn.rp (.cons rfl (.cons rfl (.cons rfl (.cons rfl (.nil _))))) (.n _)
    · refine T.condF rfl c_110 ?_
      refine T.exit (thenS_exit (thenS_exit (inBlock_exit (tN ?_))))
      refine T.seq ?_
      refine T.rL ?_
      refine asg rfl rfl rfl rfl rfl ?_
      refine TL'.nil (tN ?_)
      refine T.ret ?_
      exact Fin.done (.cons _ _ _ _ (.tmp 4 _ rfl) .nil) (by cases h; exact ⟨rfl, rfl⟩)
theorem slices_Equal_int_T (K : Nat) {x0 : List Int} {x1 : List Int} {flx0 : Bool} {flx1 : Bool} {r : Bool} (h : slices_Equal_int K x0 x1 = some r) : CallR Tryd.prog 37 [.sl flx0 1 (x0.map (cI .i64)), .sl flx1 1 (x1.map (cI .i64))] [] (.bool r) := by
 refine CallT.intro Tryd.func37 rfl (nb rfl) ?_
 show T Tryd.prog 26 (Code.at [] (codeOf Tryd.f37)) ⟨paramSlots 0 [.sl flx0 1 (x0.map (cI .i64)), .sl flx1 1 (x1.map (cI .i64))], []⟩ (slices_Equal_int_q r)
 unfold slices_Equal_int at h
 refine T.seq ?_
 refine T.rL ?_
 refine aw rfl ?_
 refine TL'.nil (tN ?_)
 refine T.seq ?_
 refine T.seq ?_
 refine T.rL ?_
 refine mw rfl ?_
 refine sp rfl (OpT.lenSlM (xs := x0) (f := (cI .i64)) rfl (dk rfl) ul40 rfl ?_)
 refine mw rfl ?_
 refine sp rfl (OpT.lenSlM (xs := x1) (f := (cI .i64)) rfl (dk rfl) ul40 rfl ?_)
 refine sp rfl (OpT.int2 rfl rfl (dk rfl) rfl rfl ?_)
 refine TL'.nil (tN ?_)
 rcases bif_some h with ⟨c_109, h⟩ | ⟨c_109, h⟩
 refine T.condT rfl c_109 ?_
 refine T.seq ?_
 refine T.rL ?_
 refine aw rfl ?_
 refine TL'.nil (tN ?_)
 refine T.ret (thenS_ret ?_)
 exact Fin.done (.cons _ _ _ _ (.tmp 4 _ rfl) .nil) (by cases h; exact ⟨rfl, rfl⟩)
 refine T.condF rfl c_109 ?_
 refine T.skip (tN ?_)
 refine T.seq ?_
 refine T.seq ?_
 refine T.rL ?_
 refine mw rfl ?_
 refine sp rfl (OpT.lenSlM (xs := x0) (f := (cI .i64)) rfl (dk rfl) ul40 rfl ?_)
 refine mw rfl ?_
 refine TL'.nil (tN ?_)
 refine T.block ?_
 refine T.loop ?_
 refine TL.by_turn ?_ (slices_Equal_int_l0_T K K x0 x1 (x0.length : Int) (0 : Int) flx0 flx1 h)
 exact Turn.rp (.cons rfl (.cons rfl (.cons rfl (.cons rfl (.nil _))))) (.n _)
abbrev sy_Right_q (r : Bool) : Exit → St → Prop := retS Tryd.prog Tryd.f16 (fun y t => y = (.bool r) ∧ t = [])
abbrev sy_Right_qs11 (r : Bool) : Exit → St → Prop := thenS (fun s' => T Tryd.prog 56 (Code.at [1, 1] (codeOf Tryd.f16)) s' ((sy_Right_q r))) ((sy_Right_q r))
abbrev sy_Right_qs1111 (r : Bool) : Exit → St → Prop := thenS (fun s' => T Tryd.prog 56 (Code.at [1, 1, 1, 1] (codeOf Tryd.f16)) s' ((sy_Right_q r))) ((sy_Right_q r))
abbrev sy_Right_qb0x1111 (r : Bool) : Exit → St → Prop := inBlockS 0 ((sy_Right_qs1111 r))
abbrev sy_Right_ql111010 (r : Bool) : Exit → St → Prop := thenS (fun s' => TL Tryd.prog 56 (Code.at [1, 1, 1, 0, 1, 0, 0] (codeOf Tryd.f16)) s' ((sy_Right_qb0x1111 r))) ((sy_Right_qb0x1111 r))
abbrev sy_Right_qs1110100111 (r : Bool) : Exit → St → Prop := thenS (fun s' => T Tryd.prog 56 (Code.at [1, 1, 1, 0, 1, 0, 0, 1, 1, 1] (codeOf Tryd.f16)) s' ((sy_Right_ql111010 r))) ((sy_Right_ql111010 r))
abbrev sy_Right_qb1_0x1110100111 (r : Bool) : Exit → St → Prop := inBlockS 1 ((sy_Right_qs1110100111 r))
abbrev sy_Right_qs1110100110011 (r : Bool) : Exit → St → Prop := thenS (fun s' => T Tryd.prog 56 (Code.at [1, 1, 1, 0, 1, 0, 0, 1, 1, 0, 0, 1, 1] (codeOf Tryd.f16)) s' ((sy_Right_qb1_0x1110100111 r))) ((sy_Right_qb1_0x1110100111 r))
theorem sy_Right_j0_T {r : Bool} (K : Nat) (h : sy_Right_j0 K = some r) : T Tryd.prog 56 (Code.at [1, 0, 1, 0] (codeOf Tryd.f16)) ⟨[], []⟩ (sy_Right_qs11 r) := by
 unfold sy_Right_j0 at h
 refine T.seq ?_
 refine T.rL ?_
 refine aw rfl ?_
 refine TL'.nil (tN ?_)
 refine T.ret (thenS_ret ?_)
 exact Fin.done (.cons _ _ _ _ (.tmp 2 _ rfl) .nil) (by cases h; exact ⟨rfl, rfl⟩)
theorem sy_Right_j2_T {r : Bool} (K : Nat) (h : sy_Right_j2 K = some r) : T Tryd.prog 56 (Code.at [1, 1, 1, 0, 1, 0, 0, 1, 1, 0, 0, 1, 0, 1, 0] (codeOf Tryd.f16)) ⟨[], []⟩ (sy_Right_qs1110100110011 r) := by
 unfold sy_Right_j2 at h
 refine T.seq ?_
 refine T.rL ?_
 refine aw rfl ?_
 refine TL'.nil (tN ?_)
 refine T.ret (thenS_ret (inBlock_ret (thenS_ret (thenS_ret (inBlock_ret (thenS_ret ?_))))))
 exact Fin.done (.cons _ _ _ _ (.tmp 2 _ rfl) .nil) (by cases h; exact ⟨rfl, rfl⟩)
theorem sy_Right_l1_T {r : Bool} (K : Nat) : ∀ (k : Nat), ∀ (x0 : List aNd) (x16_1_2 : Int) (x17_1_3 : Int) (y3_1_0 : List Int) (flx0 : Bool) (w3_1 : Value), sy_Right_l1 K k x0 x16_1_2 x17_1_3 y3_1_0 = some r → TL Tryd.prog 56 (Code.at [1, 1, 1, 0, 1, 0, 0] (codeOf Tryd.f16)) ⟨[(3, .c (.ex w3_1)), (15, .sl flx0 9 (x0.map c_aNd)), (16, .int .i64 x16_1_2), (17, .int .i64 x17_1_3)], [.arrX w3_1 3 1 0 (y3_1_0.map (cI .i64))]⟩ (sy_Right_qb0x1111 r) := by
  intro k
  induction k with
  | zero =>
    intro x0 x16_1_2 x17_1_3 y3_1_0 flx0 w3_1 h
    cases (show (none : Option Bool) = some r from h)
  | succ k ih =>
    intro x0 x16_1_2 x17_1_3 y3_1_0 flx0 w3_1 h
    rw [sy_Right_l1] at h
    refine TL.round ?_
    refine T.seq ?_
    refine T.rL ?_
    refine sp rfl (OpT.int2 rfl rfl (dl rfl rfl) rfl rfl ?_)
    refine TL'.nil (tN ?_)
    refine T.seq ?_
    rcases bif_some h with ⟨c_280, h⟩ | ⟨c_280, h⟩
    · refine T.condT rfl c_280 ?_
      refine T.skip (tN ?_)
      refine T.seq ?_
      refine T.block ?_
      refine T.seq ?_
      refine T.rL ?_
      refine mv rfl rfl rfl rfl rfl ?_
      obtain ⟨v_281, e_282, h⟩ := bind_some h
      refine sp rfl (OpT.indexSlM (xs := x0) (f := c_aNd) (v := v_281) rfl (dl rfl rfl) Tryd.underlying22 i42 rfl rfl e_282 ?_)
      refine sp rfl (OpT.loadRefAgg rfl (dl rfl rfl) Tryd.underlying42 rfl i42 rfl (Nat.le_of_ble_eq_true rfl) ?_)
      refine sp rfl (OpT.alloc' rfl (dl rfl rfl) i42 rfl (fun b_283 => ?_))
      refine asg rfl rfl rfl rfl rfl ?_
      refine sp rfl (OpT.storeAggTo (i := 0) (cells' := [.d (.int .u8 v_281.Op), .d (.int .u64 v_281.S.a0), .d (.int .u64 v_281.S.a1), .d (.int .u64 v_281.S.a2), .d (.int .u64 v_281.S.a3), .d (.sl false 1 (v_281.L.map (cI .i64))), .d (.int .i64 v_281.Lo), .d (.int .i64 v_281.Hi), .d (.str v_281.Name)]) rfl rfl i42 rfl rfl rfl rfl (Nat.le_of_ble_eq_true rfl) rfl ?_)
      refine TL'.nil (tN ?_)
      refine T.seq ?_
      refine T.seq ?_
      refine T.rL ?_
      refine sp rfl (OpT.loadBoxAgg (i := 0) (l := [.int .u8 v_281.Op, .int .u64 v_281.S.a0, .int .u64 v_281.S.a1, .int .u64 v_281.S.a2, .int .u64 v_281.S.a3, .sl false 1 (v_281.L.map (cI .i64)), .int .i64 v_281.Lo, .int .i64 v_281.Hi, .str v_281.Name]) rfl (dl rfl rfl) Tryd.underlying42 rfl i42 rfl rfl rfl rfl ?_)
      obtain ⟨v_284, e_285, h⟩ := bind_some h
      refine sp rfl (OpT.callPA rfl (dl rfl rfl) Tryd.func36 rfl rfl (Args.cons rfl Args.nil) (CallR.nil (sy_shaped_T K e_285)) ?_)
      refine sp rfl (OpT.not rfl (dl rfl rfl) rfl ?_)
      refine mv rfl rfl rfl rfl rfl ?_
      rcases bif_some h with ⟨c_286, h⟩ | ⟨c_286, h⟩
      · refine TL'.passU (.off _ _ _ _ rfl rfl rfl c_286) (dl rfl rfl) ?_
        refine TL'.passU (.off _ _ _ _ rfl rfl rfl c_286) (dl rfl rfl) ?_
        refine TL'.passU (.off _ _ _ _ rfl rfl rfl c_286) (dl rfl rfl) ?_
        refine TL'.passU (.off _ _ _ _ rfl rfl rfl c_286) (dl rfl rfl) ?_
        refine TL'.passU (.off _ _ _ _ rfl rfl rfl c_286) (dl rfl rfl) ?_
        refine TL'.passU (.off _ _ _ _ rfl rfl rfl c_286) (dl rfl rfl) ?_
        refine sp rfl (OpT.pickT rfl (dl rfl rfl) rfl c_286 rfl ?_)
        refine TL'.nil (tN ?_)
        refine T.condT rfl rfl ?_
        refine T.by_turn ?_ (sy_Right_j2_T K h)
        exact Turn.rp (.nil _) (.n _)
      · refine TL'.step (.on rfl rfl rfl c_286) (OpT.move rfl (dl rfl rfl) rfl ?_)
        refine TL'.step (.on rfl rfl rfl c_286) (OpT.lenXM (i := 1) (xs := y3_1_0) (f := (cI .i64)) rfl (dl rfl rfl) Tryd.underlying40 rfl rfl ?_)
        refine TL'.step (.on rfl rfl rfl c_286) (OpT.fieldPtr rfl (dl rfl rfl) Tryd.underlying42 rfl i40 (by decide) rfl ?_)
        refine TL'.step (.on rfl rfl rfl c_286) (OpT.loadBox (i := 0) rfl (dl rfl rfl) Tryd.underlying40 rfl rfl rfl rfl ?_)
        refine TL'.step (.on rfl rfl rfl c_286) (OpT.lenSlM (xs := v_281.L) (f := (cI .i64)) rfl (dl rfl rfl) Tryd.underlying40 rfl ?_)
        refine TL'.step (.on rfl rfl rfl c_286) (OpT.int2 rfl rfl (dl rfl rfl) rfl rfl ?_)
        refine sp rfl (OpT.pickF rfl (dl rfl rfl) rfl c_286 rfl ?_)
        refine TL'.nil (tN ?_)
        rcases bif_some h with ⟨c_287, h⟩ | ⟨c_287, h⟩
        · refine T.condT rfl c_287 ?_
          refine T.by_turn ?_ (sy_Right_j2_T K h)
          exact Turn.rp (.nil _) (.n _)
        · refine T.condF rfl c_287 ?_
          refine T.skip (tN ?_)
          refine T.seq ?_
          refine T.rL ?_
          refine mv rfl rfl rfl rfl rfl ?_
          refine sp rfl (OpT.lenXM (i := 1) (xs := y3_1_0) (f := (cI .i64)) rfl (dl rfl rfl) Tryd.underlying40 rfl rfl ?_)
          refine sp rfl (OpT.fieldPtr rfl (dl rfl rfl) Tryd.underlying42 rfl i40 (by decide) rfl ?_)
          refine sp rfl (OpT.loadBox (i := 0) rfl (dl rfl rfl) Tryd.underlying40 rfl rfl rfl rfl ?_)
          refine sp rfl (OpT.lenSlM (xs := v_281.L) (f := (cI .i64)) rfl (dl rfl rfl) Tryd.underlying40 rfl ?_)
          refine sp rfl (OpT.int2 rfl rfl (dl rfl rfl) rfl rfl ?_)
          refine asg rfl rfl rfl rfl rfl ?_
          refine TL'.nil (tN ?_)
          refine T.seq ?_
          refine T.seq ?_
          refine DG.start ?_
          refine DG.mv rfl rfl rfl rfl rfl rfl ?_
          refine DG.mv rfl rfl rfl rfl rfl rfl ?_
          obtain ⟨g_292, h⟩ := ck_some h
          refine DG.step (c := ⟨some 41, .sub w3_1 1 (Int.toNat (IntKind.i64.wrap ((y3_1_0.length : Int) - (v_281.L.length : Int)))), [(39, .c (.ex w3_1)), (40, .int .i64 (IntKind.i64.wrap ((y3_1_0.length : Int) - (v_281.L.length : Int))))], [(1, .arrX w3_1 3 1 0 (y3_1_0.map (cI .i64)))], []⟩) (fun t hm => One.step rfl (.free rfl) (OpT.sliceSub (i := 1) (xs := y3_1_0) (f := (cI .i64)) (l := (Int.toNat (IntKind.i64.wrap ((y3_1_0.length : Int) - (v_281.L.length : Int))))) rfl (dl rfl rfl) Tryd.underlying40 i3 hm.s0 hm.o0 (.some _ _ _ _ hm.s1 g_292.1) g_292.2 rfl)) (Ct.mo rfl rfl) ?_
          refine DG.step (c := ⟨some 42, .ptr b_283 (0 + 5), [(5, .ptr b_283 0)], [], []⟩) (fun t hm => One.step rfl (.free rfl) (OpT.fieldPtr rfl (dl rfl rfl) Tryd.underlying42 rfl i40 (by decide) hm.s0 rfl)) (Ct.mo rfl rfl) ?_
          refine DG.step (c := ⟨some 43, .sl false 1 (v_281.L.map (cI .i64)), [(42, .ptr b_283 (0 + 5))], [(0, .box b_283 42 [.d (.int .u8 v_281.Op), .d (.int .u64 v_281.S.a0), .d (.int .u64 v_281.S.a1), .d (.int .u64 v_281.S.a2), .d (.int .u64 v_281.S.a3), .d (.sl false 1 (v_281.L.map (cI .i64))), .d (.int .i64 v_281.Lo), .d (.int .i64 v_281.Hi), .d (.str v_281.Name)])], []⟩) (fun t hm => One.step rfl (.free rfl) (OpT.loadBox (i := 0) rfl (dl rfl rfl) Tryd.underlying40 rfl hm.s0 hm.o0 rfl rfl)) (Ct.mo rfl rfl) ?_
          obtain ⟨v_293, e_294, h⟩ := bind_some h
          refine DG.step (c := ⟨some 44, .bool v_293, [(41, .sub w3_1 1 (Int.toNat (IntKind.i64.wrap ((y3_1_0.length : Int) - (v_281.L.length : Int))))), (43, .sl false 1 (v_281.L.map (cI .i64)))], [(1, .arrX w3_1 3 1 0 (y3_1_0.map (cI .i64)))], []⟩) (fun t hm => One.step rfl (.free rfl) (OpT.callLent (i := 1) rfl (dl rfl rfl) Tryd.func37 rfl rfl hm.o0 (ArgsB.lentSub (xs := y3_1_0) (f := (cI .i64)) hm.s0 (ArgsB.cons hm.s1 ArgsB.nil)) (CallR.nil (slices_Equal_int_T K (flx0 := false) (flx1 := false) e_294)) (.ex _) rfl)) (Ct.mo rfl rfl) ?_
          refine DG.step (c := ⟨some 45, .bool (!v_293), [(44, .bool v_293)], [], []⟩) (fun t hm => One.step rfl (.free rfl) (OpT.not rfl (dl rfl rfl) hm.s0 rfl)) (Ct.mo rfl rfl) ?_
          refine DG.fin (s1 := ⟨[(3, .c (.ex w3_1)), (4, .int .i64 x17_1_3), (6, .int .i64 (IntKind.i64.wrap ((y3_1_0.length : Int) - (v_281.L.length : Int)))), (15, .sl flx0 9 (x0.map c_aNd)), (16, .int .i64 x16_1_2), (17, .int .i64 x17_1_3), (26, .c (.ex w3_1)), (27, .int .i64 (y3_1_0.length : Int)), (28, .ptr b_283 (0 + 5)), (29, .sl false 1 (v_281.L.map (cI .i64))), (30, .int .i64 (v_281.L.length : Int)), (31, .bool (decide ((y3_1_0.length : Int) < (v_281.L.length : Int)))), (45, .bool (!v_293))], [.box b_283 42 [.d (.int .u8 v_281.Op), .d (.int .u64 v_281.S.a0), .d (.int .u64 v_281.S.a1), .d (.int .u64 v_281.S.a2), .d (.int .u64 v_281.S.a3), .d (.sl false 1 (v_281.L.map (cI .i64))), .d (.int .i64 v_281.Lo), .d (.int .i64 v_281.Hi), .d (.str v_281.Name)], .arrX w3_1 3 1 0 (y3_1_0.map (cI .i64))]⟩) (ms := [0, 0, 3, 0, 8, 31, 63]) TrydMixed rfl (by kernel_rfl) (by kernel_rfl) (by kernel_rfl) (.cons rfl (.cons rfl (.cons rfl (.cons rfl (.cons rfl (.cons rfl (.cons rfl (.cons rfl (.cons rfl (.cons rfl (.cons rfl (.cons rfl (.cons rfl (.nil _)))))))))))))) rfl (fun u hu => (tN (T.by_turn hu ?_)))
          rcases bif_some h with ⟨c_295, h⟩ | ⟨c_295, h⟩
          · refine T.condT rfl c_295 ?_
            refine T.seq ?_
            refine T.rL ?_
            refine asg rfl rfl rfl rfl rfl ?_
            refine TL'.nil (tN ?_)
            refine T.ret (thenS_ret (inBlock_ret (thenS_ret (thenS_ret (inBlock_ret (thenS_ret ?_))))))
            exact Fin.done (.cons _ _ _ _ (.tmp 2 _ rfl) .nil) (by cases h; exact ⟨rfl, rfl⟩)
          · refine T.condF rfl c_295 ?_
            refine T.skip (tN ?_)
            refine T.rL ?_
            refine mv rfl rfl rfl rfl rfl ?_
            refine mv rfl rfl rfl rfl rfl ?_
            refine sp rfl (OpT.sliceX (i := 1) (xs := y3_1_0) (f := (cI .i64)) (h := (Int.toNat (IntKind.i64.wrap ((y3_1_0.length : Int) - (v_281.L.length : Int))))) rfl (dl rfl rfl) Tryd.underlying40 i3 rfl rfl (.some _ _ _ _ rfl g_292.1) g_292.2 (fun w_296 => ?_))
            refine mv rfl rfl rfl rfl rfl ?_
            refine sp rfl (OpT.buildSlice (elems := ([x17_1_3] : List Int).map (cI .i64)) rfl (dl rfl rfl) Tryd.underlying40 i3 (by decide) rfl (all1 rfl) rfl rfl rfl (lenAll rfl) (by decide) ?_)
            obtain ⟨g_298, h⟩ := ck_some h
            refine sp rfl (OpT.appendXM (i := 1) (xs := (y3_1_0.take (Int.toNat (IntKind.i64.wrap ((y3_1_0.length : Int) - (v_281.L.length : Int)))))) (ys := [x17_1_3]) (f := (cI .i64)) rfl (dl rfl rfl) Tryd.underlying40 i3 rfl rfl rfl rfl g_298 (fun w_297 => ?_))
            refine asg rfl rfl rfl rfl rfl ?_
            refine TL'.nil (inBlock_normal (tN ?_))
            refine T.rL ?_
            refine sp rfl (OpT.int2 rfl rfl (dl rfl rfl) rfl rfl ?_)
            refine mv rfl rfl rfl rfl rfl ?_
            refine TL'.nil (tN ?_)
            refine TL.by_turn ?_ (ih x0 x16_1_2 (IntKind.i64.wrap (x17_1_3 + (1 : Int))) ((y3_1_0.take (Int.toNat (IntKind.i64.wrap ((y3_1_0.length : Int) - (v_281.L.length : Int))))) ++ [x17_1_3]) flx0 w_297 h)
            exact Turn.rp (.cons rfl (.cons rfl (.cons rfl (.cons rfl (.nil _))))) (.c (.s .z) (.n _))
    · refine T.condF rfl c_280 ?_
      refine T.exit (thenS_exit (thenS_exit (inBlock_exit (tN ?_))))
      refine T.seq ?_
      refine T.rL ?_
      refine mv rfl rfl rfl rfl rfl ?_
      refine sp rfl (OpT.lenXM (i := 0) (xs := y3_1_0) (f := (cI .i64)) rfl (dl rfl rfl) Tryd.underlying40 rfl rfl ?_)
      refine sp rfl (OpT.int2 rfl rfl (dl rfl rfl) rfl rfl ?_)
      refine asg rfl rfl rfl rfl rfl ?_
      refine TL'.nil (tN ?_)
      refine T.ret ?_
      exact Fin.done (.cons _ _ _ _ (.tmp 2 _ rfl) .nil) (by cases h; exact ⟨rfl, rfl⟩)
theorem sy_Right_T (K : Nat) {x0 : List aNd} {flx0 : Bool} {r : Bool} (h : sy_Right K x0 = some r) : CallR Tryd.prog 16 [.sl flx0 9 (x0.map c_aNd)] [] (.bool r) := by
 refine CallT.intro Tryd.func16 rfl (nb rfl) ?_
 show T Tryd.prog 56 (Code.at [] (codeOf Tryd.f16)) ⟨paramSlots 0 [.sl flx0 9 (x0.map c_aNd)], []⟩ (sy_Right_q r)
 unfold sy_Right at h
 refine T.seq ?_
 refine T.rL ?_
 refine aw rfl ?_
 refine TL'.nil (tN ?_)
 refine T.seq ?_
 refine T.seq ?_
 refine T.rL ?_
 refine mw rfl ?_
 refine sp rfl (OpT.lenSlM (xs := x0) (f := c_aNd) rfl (dk rfl) ul22 rfl ?_)
 refine sp rfl (OpT.int2 rfl rfl (dk rfl) rfl rfl ?_)
 refine mw rfl ?_
 rcases bif_some h with ⟨c_278, h⟩ | ⟨c_278, h⟩
 refine TL'.passU (.off _ _ _ _ rfl rfl rfl c_278) (dk rfl) ?_
 refine TL'.passU (.off _ _ _ _ rfl rfl rfl c_278) (dk rfl) ?_
 refine TL'.passU (.off _ _ _ _ rfl rfl rfl c_278) (dk rfl) ?_
 refine sp rfl (OpT.pickT rfl (dk rfl) rfl c_278 rfl ?_)
 refine TL'.nil (tN ?_)
 refine T.condT rfl rfl ?_
 refine T.by_turn ?_ (sy_Right_j0_T K h)
 exact Turn.rp (.nil _) (.n _)
 refine TL'.step (.on rfl rfl rfl c_278) (OpT.move rfl (dk rfl) rfl ?_)
 refine TL'.step (.on rfl rfl rfl c_278) (OpT.lenSlM (xs := x0) (f := c_aNd) rfl (dk rfl) ul22 rfl ?_)
 refine TL'.step (.on rfl rfl rfl c_278) (OpT.int2 rfl rfl (dk rfl) rfl rfl ?_)
 refine sp rfl (OpT.pickF rfl (dk rfl) rfl c_278 rfl ?_)
 refine TL'.nil (tN ?_)
 rcases bif_some h with ⟨c_279, h⟩ | ⟨c_279, h⟩
 refine T.condT rfl c_279 ?_
 refine T.by_turn ?_ (sy_Right_j0_T K h)
 exact Turn.rp (.nil _) (.n _)
 refine T.condF rfl c_279 ?_
 refine T.skip (tN ?_)
 refine T.seq ?_
 refine T.rL ?_
 refine aw rfl ?_
 refine TL'.nil (tN ?_)
 refine T.seq ?_
 refine T.seq ?_
 refine T.rL ?_
 refine mw rfl ?_
 refine sp rfl (OpT.lenSlM (xs := x0) (f := c_aNd) rfl (dk rfl) ul22 rfl ?_)
 refine mw rfl ?_
 refine TL'.nil (tN ?_)
 refine T.block ?_
 refine T.loop ?_
 refine TL.by_turn (Turn.nilX 3 1) ?_
 refine TL.by_turn ?_ (sy_Right_l1_T K K x0 (x0.length : Int) (0 : Int) [] flx0 (nilv 2) h)
 exact Turn.rp (.cons rfl (.cons rfl (.cons rfl (.cons rfl (.nil _))))) (.c .z (.n _))
theorem strings_Join_T (K : Nat) {x0 : List ByteArray} {x1 : ByteArray} {flx0 : Bool} {r : ByteArray} (h : strings_Join K x0 x1 = some r) : CallR Tryd.prog 22 [.sl flx0 1 (x0.map cS), .str x1] [] (.str r) := by
 unfold strings_Join at h
 split at h
 next hc => cases h; exact join_call Tryd.lays156 Tryd.Builder_Extra_156 hc.1 hc.2
 cases h
abbrev bits_TrailingZeros64_q (r : Int) : Exit → St → Prop := retS Tryd.prog Tryd.f71 (fun y t => y = (.int .i64 r) ∧ t = [.ro 2 deBruijnD])
theorem bits_TrailingZeros64_T (K : Nat) {x0 : Int} {r : Int} (h : bits_TrailingZeros64 K x0 = some r) : CallR Tryd.prog 71 [.int .u64 x0] [.ro 2 deBruijnD] (.int .i64 r) := by
 refine CallT.intro Tryd.func71 rfl (nb rfl) ?_
 show T Tryd.prog 14 (Code.at [] (codeOf Tryd.f71)) ⟨paramSlots 0 [.int .u64 x0], [.ro 2 deBruijnD]⟩ (bits_TrailingZeros64_q r)
 unfold bits_TrailingZeros64 at h
 refine T.seq ?_
 refine T.rL ?_
 refine aw rfl ?_
 refine TL'.nil (tN ?_)
 refine T.seq ?_
 refine T.seq ?_
 refine T.rL ?_
 refine mw rfl ?_
 refine sp rfl (OpT.int2 rfl rfl (dk rfl) rfl rfl ?_)
 refine TL'.nil (tN ?_)
 rcases bif_some h with ⟨c_17, h⟩ | ⟨c_17, h⟩
 refine T.condT rfl c_17 ?_
 refine T.seq ?_
 refine T.rL ?_
 refine aw rfl ?_
 refine TL'.nil (tN ?_)
 refine T.ret (thenS_ret ?_)
 exact Fin.doneK (.cons _ _ _ _ (.tmp 2 _ rfl) .nil) (.cons 0 rfl (.nil _)) (by cases h; exact ⟨rfl, rfl⟩)
 refine T.condF rfl c_17 ?_
 refine T.skip (tN ?_)
 refine T.seq ?_
 refine T.rL ?_
 refine mw rfl ?_
 refine mw rfl ?_
 refine sp rfl (OpT.neg rfl (dk rfl) rfl ?_)
 refine sp rfl (OpT.int2 rfl rfl (dk rfl) rfl rfl ?_)
 refine sp rfl (OpT.int2 rfl rfl (dk rfl) rfl rfl ?_)
 refine sp rfl (OpT.shr rfl (dk rfl) rfl rfl (by decide) ?_)
 obtain ⟨v_18, e_19, h⟩ := bind_some h
 obtain ⟨g_20, h⟩ := ck_some h
 refine sp rfl (OpT.indexPtr rfl (dk rfl) ul110 i5 rfl rfl (geti_some e_19).1 g_20 ?_)
 refine sp rfl (OpT.loadRo (i := 0) rfl (dk rfl) ul5 rfl rfl rfl (ro_get e_19) ?_)
 refine sp rfl (OpT.convInt rfl (dk rfl) ul5 ul3 rfl ?_)
 refine aw rfl ?_
 refine TL'.nil (tN ?_)
 refine T.ret ?_
 exact Fin.doneK (.cons _ _ _ _ (.tmp 2 _ rfl) .nil) (.cons 0 rfl (.nil _)) (by cases h; exact ⟨rfl, rfl⟩)
abbrev bset_List_q (r : List Int) : Exit → St → Prop := retS Tryd.prog Tryd.f53 (fun y t => y = (.sl false 1 (r.map (cI .u8))) ∧ t = [.ro 2 deBruijnD])
abbrev bset_List_qs111 (r : List Int) : Exit → St → Prop := thenS (fun s' => T Tryd.prog 28 (Code.at [1, 1, 1] (codeOf Tryd.f53)) s' ((bset_List_q r))) ((bset_List_q r))
abbrev bset_List_qb0x111 (r : List Int) : Exit → St → Prop := inBlockS 0 ((bset_List_qs111 r))
abbrev bset_List_ql11010 (r : List Int) : Exit → St → Prop := thenS (fun s' => TL Tryd.prog 28 (Code.at [1, 1, 0, 1, 0, 0] (codeOf Tryd.f53)) s' ((bset_List_qb0x111 r))) ((bset_List_qb0x111 r))
abbrev bset_List_qs110100111 (r : List Int) : Exit → St → Prop := thenS (fun s' => T Tryd.prog 28 (Code.at [1, 1, 0, 1, 0, 0, 1, 1, 1] (codeOf Tryd.f53)) s' ((bset_List_ql11010 r))) ((bset_List_ql11010 r))
abbrev bset_List_qb1_0x110100111 (r : List Int) : Exit → St → Prop := inBlockS 1 ((bset_List_qs110100111 r))
abbrev bset_List_qb2_1_0x110100111 (r : List Int) : Exit → St → Prop := inBlockS 2 ((bset_List_qb1_0x110100111 r))
abbrev bset_List_l0_H (r : List Int) (go : Arr4 → Int → (List Int) → Option (List Int)) : Prop := ∀ (x0 : Arr4) (x7_0_2 : Int) (y3_0_0 : List Int) (w3_0 : Value), go x0 x7_0_2 y3_0_0 = some r → TL Tryd.prog 28 (Code.at [1, 1, 0, 1, 0, 0] (codeOf Tryd.f53)) ⟨[(3, .c (.ex w3_0)), (6, .agg (Arr4.dc .u64 x0)), (7, .int .i64 x7_0_2)], [.arrA w3_0 5 1 (y3_0_0.map (cI .u8)), .ro 2 deBruijnD]⟩ (bset_List_qb0x111 r)
theorem bset_List_l1_T {r : List Int} (K : Nat) (go0 : Arr4 → Int → (List Int) → Option (List Int)) (hgo0 : bset_List_l0_H r go0) : ∀ (k : Nat), ∀ (x4_1_1 : Int) (x5_1_2 : Int) (x0 : Arr4) (x7_1_4 : Int) (y3_1_0 : List Int) (w3_1 : Value), bset_List_l1 K go0 k x4_1_1 x5_1_2 x0 x7_1_4 y3_1_0 = some r → TL Tryd.prog 28 (Code.at [1, 1, 0, 1, 0, 0, 1, 1, 0, 0, 1, 0, 0] (codeOf Tryd.f53)) ⟨[(3, .c (.ex w3_1)), (4, .int .i64 x4_1_1), (5, .int .u64 x5_1_2), (6, .agg (Arr4.dc .u64 x0)), (7, .int .i64 x7_1_4)], [.arrA w3_1 5 1 (y3_1_0.map (cI .u8)), .ro 2 deBruijnD]⟩ (bset_List_qb2_1_0x110100111 r) := by
  intro k
  induction k with
  | zero =>
    intro x4_1_1 x5_1_2 x0 x7_1_4 y3_1_0 w3_1 h
    cases (show (none : Option (List Int)) = some r from h)
  | succ k ih =>
    intro x4_1_1 x5_1_2 x0 x7_1_4 y3_1_0 w3_1 h
    rw [bset_List_l1] at h
    refine TL.round ?_
    refine T.seq ?_
    refine T.seq ?_
    refine T.rL ?_
    refine mv rfl rfl rfl rfl rfl ?_
    refine sp rfl (OpT.int2 rfl rfl (dl rfl rfl) rfl rfl ?_)
    refine TL'.nil (tN ?_)
    rcases bif_some h with ⟨c_94, h⟩ | ⟨c_94, h⟩
    · refine T.condT rfl c_94 ?_
      refine T.skip (tN ?_)
      refine T.seq ?_
      refine T.block ?_
      refine T.rL ?_
      refine mv rfl rfl rfl rfl rfl ?_
      refine mv rfl rfl rfl rfl rfl ?_
      refine sp rfl (OpT.int2 rfl rfl (dl rfl rfl) rfl rfl ?_)
      refine mv rfl rfl rfl rfl rfl ?_
      obtain ⟨v_95, e_96, h⟩ := bind_some h
      refine sp rfl (OpT.callRoA rfl (dl rfl rfl) Tryd.func71 rfl rfl (Args.cons rfl Args.nil) (.cons 1 rfl (.nil)) (bits_TrailingZeros64_T K e_96) ?_)
      refine sp rfl (OpT.int2 rfl rfl (dl rfl rfl) rfl rfl ?_)
      refine sp rfl (OpT.convInt rfl (dl rfl rfl) Tryd.underlying3 Tryd.underlying5 rfl ?_)
      refine sp rfl (OpT.buildSlice (elems := ([(IntKind.u8.wrap (IntKind.i64.wrap ((IntKind.i64.wrap ((64 : Int) * x4_1_1)) + v_95)))] : List Int).map (cI .u8)) rfl (dl rfl rfl) Tryd.underlying32 i5 (by decide) rfl (all1 rfl) rfl rfl rfl (lenAll rfl) (by decide) ?_)
      obtain ⟨g_98, h⟩ := ck_some h
      refine sp rfl (OpT.appendAM (i := 0) (xs := y3_1_0) (ys := [(IntKind.u8.wrap (IntKind.i64.wrap ((IntKind.i64.wrap ((64 : Int) * x4_1_1)) + v_95)))]) (f := (cI .u8)) rfl (dl rfl rfl) Tryd.underlying32 i5 rfl rfl rfl rfl g_98 (fun w_97 => ?_))
      refine asg rfl rfl rfl rfl rfl ?_
      refine TL'.nil (inBlock_normal (tN ?_))
      refine T.rL ?_
      refine mv rfl rfl rfl rfl rfl ?_
      refine mv rfl rfl rfl rfl rfl ?_
      refine sp rfl (OpT.int2 rfl rfl (dl rfl rfl) rfl rfl ?_)
      refine sp rfl (OpT.int2 rfl rfl (dl rfl rfl) rfl rfl ?_)
      refine asg rfl rfl rfl rfl rfl ?_
      refine TL'.nil (tN ?_)
      refine TL.by_turn ?_ (ih x4_1_1 (bits .and .u64 x5_1_2 (IntKind.u64.wrap (x5_1_2 - (1 : Int)))) x0 x7_1_4 (y3_1_0 ++ [(IntKind.u8.wrap (IntKind.i64.wrap ((IntKind.i64.wrap ((64 : Int) * x4_1_1)) + v_95)))]) w_97 h)
      exact Turn.rp (.cons rfl (.cons rfl (.cons rfl (.cons rfl (.cons rfl (.nil _)))))) (.c .z (.c .z (.n _)))
    · refine T.condF rfl c_94 ?_
      refine T.exit (thenS_exit (thenS_exit (inBlock_exit (inBlock_normal (tN ?_)))))
      refine T.rL ?_
      refine sp rfl (OpT.int2 rfl rfl (dl rfl rfl) rfl rfl ?_)
      refine mv rfl rfl rfl rfl rfl ?_
      refine TL'.nil (tN ?_)
      refine TL.by_turn ?_ (hgo0 x0 (IntKind.i64.wrap (x7_1_4 + (1 : Int))) y3_1_0 w3_1 h)
      exact Turn.rp (.cons rfl (.cons rfl (.cons rfl (.nil _)))) (.c .z (.c .z (.n _)))
theorem bset_List_l0_T {r : List Int} (K : Nat) : ∀ (k : Nat), ∀ (x0 : Arr4) (x7_0_2 : Int) (y3_0_0 : List Int) (w3_0 : Value), bset_List_l0 K k x0 x7_0_2 y3_0_0 = some r → TL Tryd.prog 28 (Code.at [1, 1, 0, 1, 0, 0] (codeOf Tryd.f53)) ⟨[(3, .c (.ex w3_0)), (6, .agg (Arr4.dc .u64 x0)), (7, .int .i64 x7_0_2)], [.arrA w3_0 5 1 (y3_0_0.map (cI .u8)), .ro 2 deBruijnD]⟩ (bset_List_qb0x111 r) := by
  intro k
  induction k with
  | zero =>
    intro x0 x7_0_2 y3_0_0 w3_0 h
    cases (show (none : Option (List Int)) = some r from h)
  | succ k ih =>
    intro x0 x7_0_2 y3_0_0 w3_0 h
    rw [bset_List_l0] at h
    refine TL.round ?_
    refine T.seq ?_
    refine T.rL ?_
    refine sp rfl (OpT.int2 rfl rfl (dl rfl rfl) rfl rfl ?_)
    refine TL'.nil (tN ?_)
    refine T.seq ?_
    rcases bif_some h with ⟨c_92, h⟩ | ⟨c_92, h⟩
    · refine T.condT rfl c_92 ?_
      refine T.skip (tN ?_)
      refine T.seq ?_
      refine T.block ?_
      refine T.seq ?_
      refine T.rL ?_
      refine mv rfl rfl rfl rfl rfl ?_
      obtain ⟨g_93, h⟩ := ck_some h
      refine sp rfl (OpT.indexArr rfl (dl rfl rfl) Tryd.underlying25 Tryd.underlying23 rfl i23 rfl rfl g_93.1 g_93.2 (Arr4.dc_get (a := x0) (k := .u64) g_93.1 g_93.2) ?_)
      refine asg rfl rfl rfl rfl rfl ?_
      refine asg rfl rfl rfl rfl rfl ?_
      refine TL'.nil (tN ?_)
      refine T.block ?_
      refine T.loop ?_
      refine TL.by_turn ?_ (bset_List_l1_T K (bset_List_l0 K k) ih K x7_0_2 (Arr4.get x0 x7_0_2) x0 x7_0_2 y3_0_0 w3_0 h)
      exact Turn.rp (.cons rfl (.cons rfl (.cons rfl (.cons rfl (.cons rfl (.nil _)))))) (.c .z (.c .z (.n _)))
    · refine T.condF rfl c_92 ?_
      refine T.exit (thenS_exit (thenS_exit (inBlock_exit (tN ?_))))
      refine T.seq ?_
      refine T.rL ?_
      refine mv rfl rfl rfl rfl rfl ?_
      refine asg rfl rfl rfl rfl rfl ?_
      refine TL'.nil (tN ?_)
      refine T.ret ?_
      refine Fin.turn (Turn.view 2 0 rfl rfl) ?_
      exact Fin.doneK (.cons _ _ _ _ (.tmp 2 _ rfl) .nil) (.cons 1 rfl (.nil _)) (by cases h; exact ⟨rfl, rfl⟩)
theorem bset_List_T (K : Nat) {x0 : Arr4} {r : List Int} (h : bset_List K x0 = some r) : CallR Tryd.prog 53 [.agg (Arr4.dc .u64 x0)] [.ro 2 deBruijnD] (.sl false 1 (r.map (cI .u8))) := by
 refine CallT.intro Tryd.func53 rfl (nb rfl) ?_
 show T Tryd.prog 28 (Code.at [] (codeOf Tryd.f53)) ⟨paramSlots 0 [.agg (Arr4.dc .u64 x0)], [.ro 2 deBruijnD]⟩ (bset_List_q r)
 unfold bset_List at h
 refine T.seq ?_
 refine T.rL ?_
 refine sp rfl (OpT.boxAgg rfl (dk rfl) rfl (fun b_91 => ?_))
 refine aw rfl ?_
 refine TL'.nil (tN ?_)
 refine T.seq ?_
 refine T.rL ?_
 refine aw rfl ?_
 refine TL'.nil (tN ?_)
 refine T.seq ?_
 refine T.seq ?_
 refine T.rL ?_
 refine sp rfl (OpT.loadBoxAgg (i := 0) (l := (Arr4.dc .u64 x0)) rfl (dk rfl) ul25 rfl i25 rfl rfl rfl rfl ?_)
 refine mw rfl ?_
 refine TL'.nil (tN ?_)
 refine T.block ?_
 refine T.loop ?_
 refine TL.by_turn (Turn.nilA 5 1) ?_
 refine TL.by_turn ?_ (bset_List_l0_T K K x0 (0 : Int) [] (nilv 2) h)
 exact Turn.rp (.cons rfl (.cons rfl (.cons rfl (.nil _)))) (.c .z (.c (.s .z) (.n _)))
abbrev bset_Spans_q (r : List Arr2) : Exit → St → Prop := retS Tryd.prog Tryd.f28 (fun y t => y = (.sl false 2 (r.map (Arr2.dc .u8))) ∧ t = [.ro 2 deBruijnD])
abbrev bset_Spans_qs1111 (r : List Arr2) : Exit → St → Prop := thenS (fun s' => T Tryd.prog 36 (Code.at [1, 1, 1, 1] (codeOf Tryd.f28)) s' ((bset_Spans_q r))) ((bset_Spans_q r))
abbrev bset_Spans_qb0x1111 (r : List Arr2) : Exit → St → Prop := inBlockS 0 ((bset_Spans_qs1111 r))
abbrev bset_Spans_ql111010 (r : List Arr2) : Exit → St → Prop := thenS (fun s' => TL Tryd.prog 36 (Code.at [1, 1, 1, 0, 1, 0, 0] (codeOf Tryd.f28)) s' ((bset_Spans_qb0x1111 r))) ((bset_Spans_qb0x1111 r))
abbrev bset_Spans_qs1110100111 (r : List Arr2) : Exit → St → Prop := thenS (fun s' => T Tryd.prog 36 (Code.at [1, 1, 1, 0, 1, 0, 0, 1, 1, 1] (codeOf Tryd.f28)) s' ((bset_Spans_ql111010 r))) ((bset_Spans_ql111010 r))
abbrev bset_Spans_qb1_0x1110100111 (r : List Arr2) : Exit → St → Prop := inBlockS 1 ((bset_Spans_qs1110100111 r))
abbrev bset_Spans_l0_H (r : List Arr2) (go : Int → (List Int) → Int → Int → (List Arr2) → Option (List Arr2)) : Prop := ∀ (x4_0_1 : Int) (x8_0_2 : List Int) (x9_0_3 : Int) (x10_0_4 : Int) (y3_0_0 : List Arr2) (w3_0 : Value), go x4_0_1 x8_0_2 x9_0_3 x10_0_4 y3_0_0 = some r → TL Tryd.prog 36 (Code.at [1, 1, 1, 0, 1, 0, 0] (codeOf Tryd.f28)) ⟨[(3, .c (.ex w3_0)), (4, .int .i64 x4_0_1), (8, .sl false 1 (x8_0_2.map (cI .u8))), (9, .int .i64 x9_0_3), (10, .int .i64 x10_0_4)], [.arrX w3_0 56 2 0 (y3_0_0.map (Arr2.dc .u8)), .ro 2 deBruijnD]⟩ (bset_Spans_qb0x1111 r)
theorem bset_Spans_j1_T {r : List Arr2} (K : Nat) (go0 : Int → (List Int) → Int → Int → (List Arr2) → Option (List Arr2)) (hgo0 : bset_Spans_l0_H r go0) (x6_1_1 : Int) (x8_1_2 : List Int) (x9_1_3 : Int) (x10_1_4 : Int) (y3_1_0 : List Arr2) (w3_1 : Value) (h : bset_Spans_j1 K go0 x6_1_1 x8_1_2 x9_1_3 x10_1_4 y3_1_0 = some r) : T Tryd.prog 36 (Code.at [1, 1, 1, 0, 1, 0, 0, 1, 1, 0, 0, 1, 1] (codeOf Tryd.f28)) ⟨[(3, .c (.ex w3_1)), (6, .int .u8 x6_1_1), (8, .sl false 1 (x8_1_2.map (cI .u8))), (9, .int .i64 x9_1_3), (10, .int .i64 x10_1_4)], [.arrX w3_1 56 2 0 (y3_1_0.map (Arr2.dc .u8)), .ro 2 deBruijnD]⟩ (bset_Spans_qb1_0x1110100111 r) := by
 unfold bset_Spans_j1 at h
 refine T.rL ?_
 refine mw rfl ?_
 refine sp rfl (OpT.convInt rfl (dk rfl) ul5 ul3 rfl ?_)
 refine aw rfl ?_
 refine TL'.nil (inBlock_normal (tN ?_))
 refine T.rL ?_
 refine sp rfl (OpT.int2 rfl rfl (dk rfl) rfl rfl ?_)
 refine mw rfl ?_
 refine TL'.nil (tN ?_)
 refine TL.by_turn ?_ (hgo0 (IntKind.i64.wrap x6_1_1) x8_1_2 x9_1_3 (IntKind.i64.wrap (x10_1_4 + (1 : Int))) y3_1_0 w3_1 h)
 exact Turn.rp (.cons rfl (.cons rfl (.cons rfl (.cons rfl (.cons rfl (.nil _)))))) (.c .z (.c .z (.n _)))
theorem bset_Spans_l0_T {r : List Arr2} (K : Nat) : ∀ (k : Nat), ∀ (x4_0_1 : Int) (x8_0_2 : List Int) (x9_0_3 : Int) (x10_0_4 : Int) (y3_0_0 : List Arr2) (w3_0 : Value), bset_Spans_l0 K k x4_0_1 x8_0_2 x9_0_3 x10_0_4 y3_0_0 = some r → TL Tryd.prog 36 (Code.at [1, 1, 1, 0, 1, 0, 0] (codeOf Tryd.f28)) ⟨[(3, .c (.ex w3_0)), (4, .int .i64 x4_0_1), (8, .sl false 1 (x8_0_2.map (cI .u8))), (9, .int .i64 x9_0_3), (10, .int .i64 x10_0_4)], [.arrX w3_0 56 2 0 (y3_0_0.map (Arr2.dc .u8)), .ro 2 deBruijnD]⟩ (bset_Spans_qb0x1111 r) := by
  intro k
  induction k with
  | zero =>
    intro x4_0_1 x8_0_2 x9_0_3 x10_0_4 y3_0_0 w3_0 h
    cases (show (none : Option (List Arr2)) = some r from h)
  | succ k ih =>
    intro x4_0_1 x8_0_2 x9_0_3 x10_0_4 y3_0_0 w3_0 h
    rw [bset_Spans_l0] at h
    refine TL.round ?_
    refine T.seq ?_
    refine T.rL ?_
    refine sp rfl (OpT.int2 rfl rfl (dl rfl rfl) rfl rfl ?_)
    refine TL'.nil (tN ?_)
    refine T.seq ?_
    rcases bif_some h with ⟨c_126, h⟩ | ⟨c_126, h⟩
    · refine T.condT rfl c_126 ?_
      refine T.skip (tN ?_)
      refine T.seq ?_
      refine T.block ?_
      refine T.seq ?_
      refine T.rL ?_
      obtain ⟨v_127, e_128, h⟩ := bind_some h
      refine sp rfl (OpT.indexSlM (xs := x8_0_2) (f := (cI .u8)) (v := v_127) rfl (dl rfl rfl) Tryd.underlying32 i5 rfl rfl e_128 ?_)
      refine sp rfl (OpT.loadRef rfl (dl rfl rfl) Tryd.underlying5 rfl rfl rfl ?_)
      refine asg rfl rfl rfl rfl rfl ?_
      refine TL'.nil (tN ?_)
      refine T.seq ?_
      refine T.seq ?_
      refine T.rL ?_
      refine mv rfl rfl rfl rfl rfl ?_
      refine sp rfl (OpT.convInt rfl (dl rfl rfl) Tryd.underlying5 Tryd.underlying3 rfl ?_)
      refine mv rfl rfl rfl rfl rfl ?_
      refine sp rfl (OpT.int2 rfl rfl (dl rfl rfl) rfl rfl ?_)
      refine sp rfl (OpT.int2 rfl rfl (dl rfl rfl) rfl rfl ?_)
      refine TL'.nil (tN ?_)
      rcases bif_some h with ⟨c_129, h⟩ | ⟨c_129, h⟩
      · refine T.condT rfl c_129 ?_
        refine T.rL ?_
        refine mv rfl rfl rfl rfl rfl ?_
        refine mv rfl rfl rfl rfl rfl ?_
        refine sp rfl (OpT.lenXM (i := 0) (xs := y3_0_0) (f := (Arr2.dc .u8)) rfl (dl rfl rfl) Tryd.underlying54 rfl rfl ?_)
        refine sp rfl (OpT.int2 rfl rfl (dl rfl rfl) rfl rfl ?_)
        refine mv rfl rfl rfl rfl rfl ?_
        obtain ⟨v_130, e_131, h⟩ := bind_some h
        refine sp rfl (OpT.indexXM (n := 0) (xs := y3_0_0) (f := (Arr2.dc .u8)) (old := v_130) rfl (dl rfl rfl) Tryd.underlying54 i56 rfl rfl rfl e_131 ?_)
        refine sp rfl (OpT.indexEl rfl (dl rfl rfl) Tryd.underlying56 i5 rfl rfl (by decide) (by decide) ?_)
        refine sp rfl (OpT.storeXM (i := 0) (xs := y3_0_0) (f := (Arr2.dc .u8)) (old := v_130) (new := (Arr2.set v_130 1 v_127)) rfl rfl i5 rfl rfl rfl (geti_some e_131).2 (Nat.zero_le _) (Nat.le_of_ble_eq_true rfl) rfl ?_)
        refine TL'.nil (tN ?_)
        refine T.by_turn ?_ (bset_Spans_j1_T K (bset_Spans_l0 K k) ih v_127 x8_0_2 x9_0_3 x10_0_4 (List.set y3_0_0 (Int.toNat (IntKind.i64.wrap ((y3_0_0.length : Int) - (1 : Int)))) (Arr2.set v_130 1 v_127)) w3_0 h)
        exact Turn.rp (.cons rfl (.cons rfl (.cons rfl (.cons rfl (.cons rfl (.nil _)))))) (.c .z (.c .z (.n _)))
      · refine T.condF rfl c_129 ?_
        refine T.rL ?_
        refine mv rfl rfl rfl rfl rfl ?_
        refine mv rfl rfl rfl rfl rfl ?_
        refine mv rfl rfl rfl rfl rfl ?_
        refine sp rfl (OpT.build (l := (Arr2.dc .u8 (Arr2.mk v_127 v_127))) rfl (dl rfl rfl) (built_arr Tryd.underlying56 i56 i5) (all1 rfl) rfl rfl ?_)
        refine sp rfl (OpT.buildSliceX (elems := ([(Arr2.mk v_127 v_127)] : List Arr2).map (Arr2.dc .u8)) rfl (dl rfl rfl) Tryd.underlying54 i56 (by decide) rfl (all1 rfl) rfl rfl rfl (lenAll rfl) (by decide) (fun b_132 => ?_))
        refine TL'.turn (Turn.sealX 0 rfl) ?_
        refine TL'.turn (Turn.view 30 0 rfl rfl) ?_
        obtain ⟨g_134, h⟩ := ck_some h
        refine sp rfl (OpT.appendXM (i := 1) (xs := y3_0_0) (ys := [(Arr2.mk v_127 v_127)]) (f := (Arr2.dc .u8)) rfl (dl rfl rfl) Tryd.underlying54 i56 rfl rfl rfl rfl g_134 (fun w_133 => ?_))
        refine asg rfl rfl rfl rfl rfl ?_
        refine TL'.nil (tN ?_)
        refine T.by_turn ?_ (bset_Spans_j1_T K (bset_Spans_l0 K k) ih v_127 x8_0_2 x9_0_3 x10_0_4 (y3_0_0 ++ [(Arr2.mk v_127 v_127)]) w_133 h)
        exact Turn.rp (.cons rfl (.cons rfl (.cons rfl (.cons rfl (.cons rfl (.nil _)))))) (.c (.s .z) (.c (.s .z) (.n _)))
    · refine T.condF rfl c_126 ?_
      refine T.exit (thenS_exit (thenS_exit (inBlock_exit (tN ?_))))
      refine T.seq ?_
      refine T.rL ?_
      refine mv rfl rfl rfl rfl rfl ?_
      refine asg rfl rfl rfl rfl rfl ?_
      refine TL'.nil (tN ?_)
      refine T.ret ?_
      refine Fin.turn (Turn.sealX 0 rfl) ?_
      refine Fin.turn (Turn.view 2 0 rfl rfl) ?_
      exact Fin.doneK (.cons _ _ _ _ (.tmp 2 _ rfl) .nil) (.cons 1 rfl (.nil _)) (by cases h; exact ⟨rfl, rfl⟩)
theorem bset_Spans_T (K : Nat) {x0 : Arr4} {r : List Arr2} (h : bset_Spans K x0 = some r) : CallR Tryd.prog 28 [.agg (Arr4.dc .u64 x0)] [.ro 2 deBruijnD] (.sl false 2 (r.map (Arr2.dc .u8))) := by
 refine CallT.intro Tryd.func28 rfl (nb rfl) ?_
 show T Tryd.prog 36 (Code.at [] (codeOf Tryd.f28)) ⟨paramSlots 0 [.agg (Arr4.dc .u64 x0)], [.ro 2 deBruijnD]⟩ (bset_Spans_q r)
 unfold bset_Spans at h
 refine T.seq ?_
 refine T.rL ?_
 refine sp rfl (OpT.boxAgg rfl (dk rfl) rfl (fun b_123 => ?_))
 refine aw rfl ?_
 refine TL'.nil (tN ?_)
 refine T.seq ?_
 refine T.rL ?_
 refine aw rfl ?_
 refine TL'.nil (tN ?_)
 refine T.seq ?_
 refine T.rL ?_
 refine aw rfl ?_
 refine TL'.nil (tN ?_)
 refine T.seq ?_
 refine T.seq ?_
 refine T.rL ?_
 refine sp rfl (OpT.loadBoxAgg (i := 0) (l := (Arr4.dc .u64 x0)) rfl (dk rfl) ul25 rfl i25 rfl rfl rfl rfl ?_)
 obtain ⟨v_124, e_125, h⟩ := bind_some h
 refine sp rfl (OpT.callRoA rfl (dk rfl) Tryd.func53 rfl rfl (Args.cons rfl Args.nil) (.cons 1 rfl (.nil)) (bset_List_T K e_125) ?_)
 refine sp rfl (OpT.lenSlM (xs := v_124) (f := (cI .u8)) rfl (dk rfl) ul32 rfl ?_)
 refine mw rfl ?_
 refine TL'.nil (tN ?_)
 refine T.block ?_
 refine T.loop ?_
 refine TL.by_turn (Turn.nilX 56 2) ?_
 refine TL.by_turn ?_ (bset_Spans_l0_T K K (-2 : Int) v_124 (v_124.length : Int) (0 : Int) [] (nilv 2) h)
 exact Turn.rp (.cons rfl (.cons rfl (.cons rfl (.cons rfl (.cons rfl (.nil _)))))) (.c .z (.c (.s .z) (.n _)))
abbrev bset_Of_q (r : Arr4) : Exit → St → Prop := retS Tryd.prog Tryd.f30 (fun y t => y = (.agg (Arr4.dc .u64 r)) ∧ t = [])
abbrev bset_Of_qs111 (r : Arr4) : Exit → St → Prop := thenS (fun s' => T Tryd.prog 23 (Code.at [1, 1, 1] (codeOf Tryd.f30)) s' ((bset_Of_q r))) ((bset_Of_q r))
abbrev bset_Of_qb0x111 (r : Arr4) : Exit → St → Prop := inBlockS 0 ((bset_Of_qs111 r))
theorem bset_Of_l0_T {r : Arr4} (K : Nat) : ∀ (k : Nat), ∀ (x0 : List Int) (x7_0_3 : Int) (x8_0_4 : Int) (y2_0_0 : Arr4) (y3_0_1 : Arr4) (flx0 : Bool) (b2_0 : Nat) (b3_0 : Nat), bset_Of_l0 K k x0 x7_0_3 x8_0_4 y2_0_0 y3_0_1 = some r → TL Tryd.prog 23 (Code.at [1, 1, 0, 1, 0, 0] (codeOf Tryd.f30)) ⟨[(2, .ptr b2_0 0), (3, .ptr b3_0 0), (6, .sl flx0 1 (x0.map (cI .u8))), (7, .int .i64 x7_0_3), (8, .int .i64 x8_0_4)], [.box b2_0 25 (Arr4.oc .u64 y2_0_0), .box b3_0 25 (Arr4.oc .u64 y3_0_1)]⟩ (bset_Of_qb0x111 r) := by
  intro k
  induction k with
  | zero =>
    intro x0 x7_0_3 x8_0_4 y2_0_0 y3_0_1 flx0 b2_0 b3_0 h
    cases (show (none : Option Arr4) = some r from h)
  | succ k ih =>
    intro x0 x7_0_3 x8_0_4 y2_0_0 y3_0_1 flx0 b2_0 b3_0 h
    rw [bset_Of_l0] at h
    refine TL.round ?_
    refine T.seq ?_
    refine T.rL ?_
    refine sp rfl (OpT.int2 rfl rfl (dl rfl rfl) rfl rfl ?_)
    refine TL'.nil (tN ?_)
    refine T.seq ?_
    rcases bif_some h with ⟨c_59, h⟩ | ⟨c_59, h⟩
    · refine T.condT rfl c_59 ?_
      refine T.skip (tN ?_)
      refine T.seq ?_
      refine T.block ?_
      refine T.seq ?_
      refine T.rL ?_
      obtain ⟨v_60, e_61, h⟩ := bind_some h
      refine sp rfl (OpT.indexSlM (xs := x0) (f := (cI .u8)) (v := v_60) rfl (dl rfl rfl) Tryd.underlying32 i5 rfl rfl e_61 ?_)
      refine sp rfl (OpT.loadRef rfl (dl rfl rfl) Tryd.underlying5 rfl rfl rfl ?_)
      refine asg rfl rfl rfl rfl rfl ?_
      refine TL'.nil (tN ?_)
      refine T.rL ?_
      refine mv rfl rfl rfl rfl rfl ?_
      refine sp rfl (OpT.quo rfl (dl rfl rfl) rfl rfl (by decide) ?_)
      obtain ⟨g_62, h⟩ := ck_some h
      refine sp rfl (OpT.indexPtr rfl (dl rfl rfl) Tryd.underlying25 i23 rfl rfl g_62.1 g_62.2 ?_)
      refine sp rfl (OpT.loadBox (i := 1) rfl (dl rfl rfl) Tryd.underlying23 rfl rfl rfl (Arr4.oc_get (k := .u64) (a := y3_0_1) (pre := []) (post := []) g_62.1 g_62.2) ?_)
      refine mv rfl rfl rfl rfl rfl ?_
      refine sp rfl (OpT.rem rfl (dl rfl rfl) rfl rfl (by decide) ?_)
      obtain ⟨g_63, h⟩ := ck_some h
      refine sp rfl (OpT.shl rfl (dl rfl rfl) rfl rfl g_63 ?_)
      refine sp rfl (OpT.int2 rfl rfl (dl rfl rfl) rfl rfl ?_)
      refine sp rfl (OpT.indexPtr rfl (dl rfl rfl) Tryd.underlying25 i23 rfl rfl g_62.1 g_62.2 ?_)
      refine sp rfl (OpT.storeTo (i := 1) (cells' := (Arr4.oc .u64 (Arr4.set y3_0_1 (IntKind.u8.wrap (Int.tdiv v_60 (64 : Int))) (bits .or .u64 (Arr4.get y3_0_1 (IntKind.u8.wrap (Int.tdiv v_60 (64 : Int)))) (IntKind.u64.wrap ((1 : Int) * 2 ^ min (Int.toNat (Int.tmod v_60 (64 : Int))) IntKind.u64.bits)))))) rfl rfl i23 rfl rfl rfl (Arr4.oc_lt (k := .u64) (a := y3_0_1) (pre := []) (post := []) g_62.1 g_62.2) (Arr4.oc_set (k := .u64) (a := y3_0_1) (pre := []) (post := []) g_62.1 g_62.2) ?_)
      refine TL'.nil (inBlock_normal (tN ?_))
      refine T.rL ?_
      refine sp rfl (OpT.int2 rfl rfl (dl rfl rfl) rfl rfl ?_)
      refine mv rfl rfl rfl rfl rfl ?_
      refine TL'.nil (tN ?_)
      refine TL.by_turn ?_ (ih x0 x7_0_3 (IntKind.i64.wrap (x8_0_4 + (1 : Int))) y2_0_0 (Arr4.set y3_0_1 (IntKind.u8.wrap (Int.tdiv v_60 (64 : Int))) (bits .or .u64 (Arr4.get y3_0_1 (IntKind.u8.wrap (Int.tdiv v_60 (64 : Int)))) (IntKind.u64.wrap ((1 : Int) * 2 ^ min (Int.toNat (Int.tmod v_60 (64 : Int))) IntKind.u64.bits)))) flx0 b2_0 b3_0 h)
      exact Turn.rp (.cons rfl (.cons rfl (.cons rfl (.cons rfl (.cons rfl (.nil _)))))) (.c .z (.c .z (.n _)))
    · refine T.condF rfl c_59 ?_
      refine T.exit (thenS_exit (thenS_exit (inBlock_exit (tN ?_))))
      refine T.seq ?_
      refine T.rL ?_
      refine sp rfl (OpT.loadBoxAgg (i := 1) (l := (Arr4.dc .u64 y3_0_1)) rfl (dl rfl rfl) Tryd.underlying25 rfl i25 rfl rfl rfl rfl ?_)
      refine sp rfl (OpT.storeAggTo (i := 0) (cells' := (Arr4.oc .u64 y3_0_1)) rfl rfl i25 rfl rfl rfl rfl (Nat.le_of_ble_eq_true rfl) rfl ?_)
      refine TL'.nil (tN ?_)
      refine T.ret ?_
      exact Fin.done (.cons _ _ _ _ (.cellAgg 2 25 _ 0 0 25 _ (Arr4.dc .u64 y3_0_1) _ _ 4 _ rfl rfl rfl rfl Tryd.underlying25 rfl i25) .nil) (by cases h; exact ⟨rfl, rfl⟩)
theorem bset_Of_T (K : Nat) {x0 : List Int} {flx0 : Bool} {r : Arr4} (h : bset_Of K x0 = some r) : CallR Tryd.prog 30 [.sl flx0 1 (x0.map (cI .u8))] [] (.agg (Arr4.dc .u64 r)) := by
 refine CallT.intro Tryd.func30 rfl (nb rfl) ?_
 show T Tryd.prog 23 (Code.at [] (codeOf Tryd.f30)) ⟨paramSlots 0 [.sl flx0 1 (x0.map (cI .u8))], []⟩ (bset_Of_q r)
 unfold bset_Of at h
 refine T.seq ?_
 refine T.rL ?_
 refine sp rfl (OpT.alloc' rfl (dk rfl) i25 rfl (fun b_57 => ?_))
 refine TL'.nil (tN ?_)
 refine T.seq ?_
 refine T.rL ?_
 refine sp rfl (OpT.alloc' rfl (dk rfl) i25 rfl (fun b_58 => ?_))
 refine TL'.nil (tN ?_)
 refine T.seq ?_
 refine T.seq ?_
 refine T.rL ?_
 refine mw rfl ?_
 refine sp rfl (OpT.lenSlM (xs := x0) (f := (cI .u8)) rfl (dk rfl) ul32 rfl ?_)
 refine mw rfl ?_
 refine TL'.nil (tN ?_)
 refine T.block ?_
 refine T.loop ?_
 refine TL.by_turn ?_ (bset_Of_l0_T K K x0 (x0.length : Int) (0 : Int) (Arr4.mk 0 0 0 0) (Arr4.mk 0 0 0 0) flx0 b_57 b_58 h)
 exact Turn.rp (.cons rfl (.cons rfl (.cons rfl (.cons rfl (.cons rfl (.nil _)))))) (.c (.s .z) (.c .z (.n _)))
abbrev bset_Not_q (r : Arr4) : Exit → St → Prop := retS Tryd.prog Tryd.f29 (fun y t => y = (.agg (Arr4.dc .u64 r)) ∧ t = [])
abbrev bset_Not_qs11 (r : Arr4) : Exit → St → Prop := thenS (fun s' => T Tryd.prog 16 (Code.at [1, 1] (codeOf Tryd.f29)) s' ((bset_Not_q r))) ((bset_Not_q r))
abbrev bset_Not_qb0x11 (r : Arr4) : Exit → St → Prop := inBlockS 0 ((bset_Not_qs11 r))
theorem bset_Not_l0_T {r : Arr4} (K : Nat) : ∀ (k : Nat), ∀ (x0 : Arr4) (x6_0_3 : Int) (y1_0_0 : Arr4) (y2_0_1 : Arr4) (b1_0 : Nat) (b2_0 : Nat), bset_Not_l0 K k x0 x6_0_3 y1_0_0 y2_0_1 = some r → TL Tryd.prog 16 (Code.at [1, 0, 1, 0, 0] (codeOf Tryd.f29)) ⟨[(1, .ptr b1_0 0), (2, .ptr b2_0 0), (5, .agg (Arr4.dc .u64 x0)), (6, .int .i64 x6_0_3)], [.box b1_0 25 (Arr4.oc .u64 y1_0_0), .box b2_0 25 (Arr4.oc .u64 y2_0_1)]⟩ (bset_Not_qb0x11 r) := by
  intro k
  induction k with
  | zero =>
    intro x0 x6_0_3 y1_0_0 y2_0_1 b1_0 b2_0 h
    cases (show (none : Option Arr4) = some r from h)
  | succ k ih =>
    intro x0 x6_0_3 y1_0_0 y2_0_1 b1_0 b2_0 h
    rw [bset_Not_l0] at h
    refine TL.round ?_
    refine T.seq ?_
    refine T.rL ?_
    refine sp rfl (OpT.int2 rfl rfl (dl rfl rfl) rfl rfl ?_)
    refine TL'.nil (tN ?_)
    refine T.seq ?_
    rcases bif_some h with ⟨c_29, h⟩ | ⟨c_29, h⟩
    · refine T.condT rfl c_29 ?_
      refine T.skip (tN ?_)
      refine T.seq ?_
      refine T.block ?_
      refine T.seq ?_
      refine T.rL ?_
      refine mv rfl rfl rfl rfl rfl ?_
      obtain ⟨g_30, h⟩ := ck_some h
      refine sp rfl (OpT.indexArr rfl (dl rfl rfl) Tryd.underlying25 Tryd.underlying23 rfl i23 rfl rfl g_30.1 g_30.2 (Arr4.dc_get (a := x0) (k := .u64) g_30.1 g_30.2) ?_)
      refine asg rfl rfl rfl rfl rfl ?_
      refine asg rfl rfl rfl rfl rfl ?_
      refine TL'.nil (tN ?_)
      refine T.rL ?_
      refine mv rfl rfl rfl rfl rfl ?_
      refine mv rfl rfl rfl rfl rfl ?_
      refine sp rfl (OpT.compl rfl (dl rfl rfl) rfl ?_)
      refine sp rfl (OpT.indexPtr rfl (dl rfl rfl) Tryd.underlying25 i23 rfl rfl g_30.1 g_30.2 ?_)
      refine sp rfl (OpT.storeTo (i := 0) (cells' := (Arr4.oc .u64 (Arr4.set y1_0_0 x6_0_3 (bits .xor .u64 IntKind.u64.max (Arr4.get x0 x6_0_3))))) rfl rfl i23 rfl rfl rfl (Arr4.oc_lt (k := .u64) (a := y1_0_0) (pre := []) (post := []) g_30.1 g_30.2) (Arr4.oc_set (k := .u64) (a := y1_0_0) (pre := []) (post := []) g_30.1 g_30.2) ?_)
      refine TL'.nil (inBlock_normal (tN ?_))
      refine T.rL ?_
      refine sp rfl (OpT.int2 rfl rfl (dl rfl rfl) rfl rfl ?_)
      refine mv rfl rfl rfl rfl rfl ?_
      refine TL'.nil (tN ?_)
      refine TL.by_turn ?_ (ih x0 (IntKind.i64.wrap (x6_0_3 + (1 : Int))) (Arr4.set y1_0_0 x6_0_3 (bits .xor .u64 IntKind.u64.max (Arr4.get x0 x6_0_3))) y2_0_1 b1_0 b2_0 h)
      exact Turn.rp (.cons rfl (.cons rfl (.cons rfl (.cons rfl (.nil _))))) (.c .z (.c .z (.n _)))
    · refine T.condF rfl c_29 ?_
      refine T.exit (thenS_exit (thenS_exit (inBlock_exit (tN ?_))))
      refine T.seq ?_
      refine T.rL ?_
      refine sp rfl (OpT.loadBoxAgg (i := 0) (l := (Arr4.dc .u64 y1_0_0)) rfl (dl rfl rfl) Tryd.underlying25 rfl i25 rfl rfl rfl rfl ?_)
      refine sp rfl (OpT.storeAggTo (i := 1) (cells' := (Arr4.oc .u64 y1_0_0)) rfl rfl i25 rfl rfl rfl rfl (Nat.le_of_ble_eq_true rfl) rfl ?_)
      refine TL'.nil (tN ?_)
      refine T.ret ?_
      exact Fin.done (.cons _ _ _ _ (.cellAgg 2 25 _ 0 1 25 _ (Arr4.dc .u64 y1_0_0) _ _ 4 _ rfl rfl rfl rfl Tryd.underlying25 rfl i25) .nil) (by cases h; exact ⟨rfl, rfl⟩)
theorem bset_Not_T (K : Nat) {x0 : Arr4} {r : Arr4} (h : bset_Not K x0 = some r) : CallR Tryd.prog 29 [.agg (Arr4.dc .u64 x0)] [] (.agg (Arr4.dc .u64 r)) := by
 refine CallT.intro Tryd.func29 rfl (nb rfl) ?_
 show T Tryd.prog 16 (Code.at [] (codeOf Tryd.f29)) ⟨paramSlots 0 [.agg (Arr4.dc .u64 x0)], []⟩ (bset_Not_q r)
 unfold bset_Not at h
 refine T.seq ?_
 refine T.rL ?_
 refine sp rfl (OpT.boxAgg rfl (dk rfl) rfl (fun b_27 => ?_))
 refine sp rfl (OpT.alloc' rfl (dk rfl) i25 rfl (fun b_28 => ?_))
 refine TL'.nil (tN ?_)
 refine T.seq ?_
 refine T.seq ?_
 refine T.rL ?_
 refine sp rfl (OpT.loadBoxAgg (i := 1) (l := (Arr4.dc .u64 x0)) rfl (dk rfl) ul25 rfl i25 rfl rfl rfl rfl ?_)
 refine mw rfl ?_
 refine TL'.nil (tN ?_)
 refine T.block ?_
 refine T.loop ?_
 refine TL.by_turn ?_ (bset_Not_l0_T K K x0 (0 : Int) x0 (Arr4.mk 0 0 0 0) b_27 b_28 h)
 exact Turn.rp (.cons rfl (.cons rfl (.cons rfl (.cons rfl (.nil _))))) (.c (.s .z) (.c .z (.n _)))
abbrev sB_copyCheck_q (bx0 : Nat) (x0c1 : List Int) (r : Unit) : Exit → St → Prop := retS Tryd.prog Tryd.f54 (fun y t => ∃ γ : Nat → Value, y = (.tup []) ∧ t = [.box bx0 61 [.d (.ptr bx0 0), .d (.ex (γ 0))], .arrX (γ 0) 5 1 0 (x0c1.map (cI .u8))])
theorem sB_copyCheck_T (K : Nat) {x0c1 : List Int} {bx0 : Nat} {wx0c1 : Value} {r : Unit} (h : sB_copyCheck K x0c1 = some r) : CallG Tryd.prog 54 [.ptr bx0 0] [.box bx0 61 [.d (.ex (.pointer none)), .d (.ex wx0c1)], .arrX wx0c1 5 1 0 (x0c1.map (cI .u8))] (fun γ => (.tup [])) (fun γ => [.box bx0 61 [.d (.ptr bx0 0), .d (.ex (γ 0))], .arrX (γ 0) 5 1 0 (x0c1.map (cI .u8))]) := by
 refine CallT.intro Tryd.func54 rfl (nb rfl) ?_
 show T Tryd.prog 20 (Code.at [] (codeOf Tryd.f54)) ⟨paramSlots 0 [.ptr bx0 0], [.box bx0 61 [.d (.ex (.pointer none)), .d (.ex wx0c1)], .arrX wx0c1 5 1 0 (x0c1.map (cI .u8))]⟩ (sB_copyCheck_q bx0 x0c1 r)
 unfold sB_copyCheck at h
 refine T.seq ?_
 refine T.rL ?_
 refine mw rfl ?_
 refine sp rfl (OpT.nilCheck rfl (dk rfl) rfl rfl ?_)
 refine sp rfl (OpT.fieldPtr rfl (dk rfl) ul61 rfl i59 (by decide) rfl ?_)
 refine sp rfl (OpT.loadBox (i := 0) rfl (dk rfl) ul59 rfl rfl rfl rfl ?_)
 refine sp rfl (OpT.eqlPtrNil rfl (dk rfl) ul59 rfl rfl ?_)
 refine TL'.nil (tN ?_)
 refine T.condT rfl rfl ?_
 refine T.rL ?_
 refine mw rfl ?_
 refine mw rfl ?_
 refine sp rfl (OpT.toUnsafe (i := 0) rfl (dk rfl) ul59 ul99 i61 (by decide) rfl rfl (Nat.zero_lt_succ _) ?_)
 refine sp rfl (OpT.noEscape rfl (dk rfl) Tryd.func72 rfl rfl (by kernel_rfl) (by kernel_rfl) rfl rfl ?_)
 refine sp rfl (OpT.ofUnsafe (i := 0) rfl (dk rfl) ul99 ul59 i61 rfl rfl rfl (by kernel_rfl) ?_)
 refine sp rfl (OpT.nilCheck rfl (dk rfl) rfl rfl ?_)
 refine sp rfl (OpT.fieldPtr rfl (dk rfl) ul61 rfl i59 (by decide) rfl ?_)
 refine sp rfl (OpT.storeTo (i := 0) (cells' := [.d (.ptr bx0 0), .d (.ex wx0c1)]) rfl rfl i59 rfl rfl rfl (nb rfl) rfl ?_)
 refine TL'.nil ?_
 exact Fin.doneK (.nil) (.cons 0 rfl (.cons 0 rfl (.nil _))) (by cases h; exact ⟨gl [wx0c1], rfl, rfl⟩)
abbrev sB_WriteString_q (bx0 : Nat) (r : Int × Unit × (List Int)) : Exit → St → Prop := retS Tryd.prog Tryd.f31 (fun y t => ∃ γ : Nat → Value, y = (.tup [.int .i64 r.1, .c (.ex .nilIface)]) ∧ t = [.box bx0 61 [.d (.ptr bx0 0), .d (.ex (γ 0))], .arrX (γ 0) 5 1 0 (r.2.2.map (cI .u8))])
theorem sB_WriteString_T (K : Nat) {x0c1 : List Int} {x1 : ByteArray} {bx0 : Nat} {wx0c1 : Value} {r : Int × Unit × (List Int)} (h : sB_WriteString K x0c1 x1 = some r) : CallG Tryd.prog 31 [.ptr bx0 0, .str x1] [.box bx0 61 [.d (.ex (.pointer none)), .d (.ex wx0c1)], .arrX wx0c1 5 1 0 (x0c1.map (cI .u8))] (fun γ => (.tup [.int .i64 r.1, .c (.ex .nilIface)])) (fun γ => [.box bx0 61 [.d (.ptr bx0 0), .d (.ex (γ 0))], .arrX (γ 0) 5 1 0 (r.2.2.map (cI .u8))]) := by
 refine CallT.intro Tryd.func31 rfl (nb rfl) ?_
 show T Tryd.prog 19 (Code.at [] (codeOf Tryd.f31)) ⟨paramSlots 0 [.ptr bx0 0, .str x1], [.box bx0 61 [.d (.ex (.pointer none)), .d (.ex wx0c1)], .arrX wx0c1 5 1 0 (x0c1.map (cI .u8))]⟩ (sB_WriteString_q bx0 r)
 unfold sB_WriteString at h
 refine T.seq ?_
 refine T.rL ?_
 refine aw rfl ?_
 refine aw rfl ?_
 refine TL'.nil (tN ?_)
 refine T.seq ?_
 refine T.rL ?_
 refine mw rfl ?_
 obtain ⟨v_16, e_17, h⟩ := bind_some h
 refine sp rfl (OpT.callG (is := [0, 1]) (ph := []) rfl (dk rfl) Tryd.func54 rfl rfl (Args.cons rfl Args.nil) (sB_copyCheck_T K (bx0 := bx0) (wx0c1 := wx0c1) e_17) (.cons rfl rfl (.cons rfl rfl (.nil))) (fun _ => rfl) (fun γ_18 => ?_))
 refine nm (.c (.c (.n))) ?_
 refine TL'.nil (tN ?_)
 refine T.seq ?_
 refine T.rL ?_
 refine mw rfl ?_
 refine mw rfl ?_
 refine sp rfl (OpT.nilCheck rfl (dk rfl) rfl rfl ?_)
 refine sp rfl (OpT.fieldPtr rfl (dk rfl) ul61 rfl i32 (by decide) rfl ?_)
 refine sp rfl (OpT.loadBox (i := 0) rfl (dk rfl) ul32 rfl rfl rfl rfl ?_)
 refine mw rfl ?_
 obtain ⟨g_20, h⟩ := ck_some h
 refine sp rfl (OpT.appendStrXM (i := 1) (xs := x0c1) rfl (dk rfl) ul32 ul9 i5 rfl rfl rfl rfl g_20 (fun w_19 => ?_))
 refine sp rfl (OpT.nilCheck rfl (dk rfl) rfl rfl ?_)
 refine sp rfl (OpT.fieldPtr rfl (dk rfl) ul61 rfl i32 (by decide) rfl ?_)
 refine sp rfl (OpT.storeTo (i := 0) (cells' := [.d (.ptr bx0 0), .d (.ex w_19)]) rfl rfl i32 rfl rfl rfl (nb rfl) rfl ?_)
 refine TL'.nil (tN ?_)
 refine T.seq ?_
 refine T.rL ?_
 refine mw rfl ?_
 refine sp rfl (OpT.lenStr rfl (dk rfl) ul9 rfl ?_)
 refine aw rfl ?_
 refine aw rfl ?_
 refine TL'.nil (tN ?_)
 refine T.ret ?_
 exact Fin.doneK (.cons _ _ _ _ (.tmp 4 _ rfl) (.cons _ _ _ _ (.tmp 5 _ rfl) .nil)) (.cons 0 rfl (.cons 0 rfl (.nil _))) (by cases h; exact ⟨gl [w_19], rfl, rfl⟩)
abbrev sB_copyCheck_i1_q (bx0 : Nat) (x0c1 : List Int) (r : Unit) : Exit → St → Prop := retS Tryd.prog Tryd.f54 (fun y t => ∃ γ : Nat → Value, y = (.tup []) ∧ t = [.box bx0 61 [.d (.ptr bx0 0), .d (.ex (γ 0))], .arrX (γ 0) 5 1 0 (x0c1.map (cI .u8))])
theorem sB_copyCheck_i1_T (K : Nat) {x0c1 : List Int} {bx0 : Nat} {wx0c1 : Value} {r : Unit} (h : sB_copyCheck_i1 K x0c1 = some r) : CallG Tryd.prog 54 [.ptr bx0 0] [.box bx0 61 [.d (.ptr bx0 0), .d (.ex wx0c1)], .arrX wx0c1 5 1 0 (x0c1.map (cI .u8))] (fun γ => (.tup [])) (fun γ => [.box bx0 61 [.d (.ptr bx0 0), .d (.ex (γ 0))], .arrX (γ 0) 5 1 0 (x0c1.map (cI .u8))]) := by
 refine CallT.intro Tryd.func54 rfl (nb rfl) ?_
 show T Tryd.prog 20 (Code.at [] (codeOf Tryd.f54)) ⟨paramSlots 0 [.ptr bx0 0], [.box bx0 61 [.d (.ptr bx0 0), .d (.ex wx0c1)], .arrX wx0c1 5 1 0 (x0c1.map (cI .u8))]⟩ (sB_copyCheck_i1_q bx0 x0c1 r)
 unfold sB_copyCheck_i1 at h
 refine T.seq ?_
 refine T.rL ?_
 refine mw rfl ?_
 refine sp rfl (OpT.nilCheck rfl (dk rfl) rfl rfl ?_)
 refine sp rfl (OpT.fieldPtr rfl (dk rfl) ul61 rfl i59 (by decide) rfl ?_)
 refine sp rfl (OpT.loadBox (i := 0) rfl (dk rfl) ul59 rfl rfl rfl rfl ?_)
 refine sp rfl (OpT.eqlPtrSome rfl (dk rfl) ul59 rfl rfl ?_)
 refine TL'.nil (tN ?_)
 refine T.condF rfl rfl ?_
 refine T.seq ?_
 refine T.rL ?_
 refine mw rfl ?_
 refine sp rfl (OpT.nilCheck rfl (dk rfl) rfl rfl ?_)
 refine sp rfl (OpT.fieldPtr rfl (dk rfl) ul61 rfl i59 (by decide) rfl ?_)
 refine sp rfl (OpT.loadBox (i := 0) rfl (dk rfl) ul59 rfl rfl rfl rfl ?_)
 refine mw rfl ?_
 refine sp rfl (OpT.neqPtrSame rfl (dk rfl) ul59 i61 rfl rfl ?_)
 refine TL'.nil (tN ?_)
 refine T.condF rfl rfl ?_
 refine T.skip ?_
 exact Fin.doneK (.nil) (.cons 0 rfl (.cons 0 rfl (.nil _))) (by cases h; exact ⟨gl [wx0c1], rfl, rfl⟩)
abbrev sB_WriteString_i1_q (bx0 : Nat) (r : Int × Unit × (List Int)) : Exit → St → Prop := retS Tryd.prog Tryd.f31 (fun y t => ∃ γ : Nat → Value, y = (.tup [.int .i64 r.1, .c (.ex .nilIface)]) ∧ t = [.box bx0 61 [.d (.ptr bx0 0), .d (.ex (γ 0))], .arrX (γ 0) 5 1 0 (r.2.2.map (cI .u8))])
theorem sB_WriteString_i1_T (K : Nat) {x0c1 : List Int} {x1 : ByteArray} {bx0 : Nat} {wx0c1 : Value} {r : Int × Unit × (List Int)} (h : sB_WriteString_i1 K x0c1 x1 = some r) : CallG Tryd.prog 31 [.ptr bx0 0, .str x1] [.box bx0 61 [.d (.ptr bx0 0), .d (.ex wx0c1)], .arrX wx0c1 5 1 0 (x0c1.map (cI .u8))] (fun γ => (.tup [.int .i64 r.1, .c (.ex .nilIface)])) (fun γ => [.box bx0 61 [.d (.ptr bx0 0), .d (.ex (γ 0))], .arrX (γ 0) 5 1 0 (r.2.2.map (cI .u8))]) := by
 refine CallT.intro Tryd.func31 rfl (nb rfl) ?_
 show T Tryd.prog 19 (Code.at [] (codeOf Tryd.f31)) ⟨paramSlots 0 [.ptr bx0 0, .str x1], [.box bx0 61 [.d (.ptr bx0 0), .d (.ex wx0c1)], .arrX wx0c1 5 1 0 (x0c1.map (cI .u8))]⟩ (sB_WriteString_i1_q bx0 r)
 unfold sB_WriteString_i1 at h
 refine T.seq ?_
 refine T.rL ?_
 refine aw rfl ?_
 refine aw rfl ?_
 refine TL'.nil (tN ?_)
 refine T.seq ?_
 refine T.rL ?_
 refine mw rfl ?_
 obtain ⟨v_16, e_17, h⟩ := bind_some h
 refine sp rfl (OpT.callG (is := [0, 1]) (ph := []) rfl (dk rfl) Tryd.func54 rfl rfl (Args.cons rfl Args.nil) (sB_copyCheck_i1_T K (bx0 := bx0) (wx0c1 := wx0c1) e_17) (.cons rfl rfl (.cons rfl rfl (.nil))) (fun _ => rfl) (fun γ_18 => ?_))
 refine nm (.c (.c (.n))) ?_
 refine TL'.nil (tN ?_)
 refine T.seq ?_
 refine T.rL ?_
 refine mw rfl ?_
 refine mw rfl ?_
 refine sp rfl (OpT.nilCheck rfl (dk rfl) rfl rfl ?_)
 refine sp rfl (OpT.fieldPtr rfl (dk rfl) ul61 rfl i32 (by decide) rfl ?_)
 refine sp rfl (OpT.loadBox (i := 0) rfl (dk rfl) ul32 rfl rfl rfl rfl ?_)
 refine mw rfl ?_
 obtain ⟨g_20, h⟩ := ck_some h
 refine sp rfl (OpT.appendStrXM (i := 1) (xs := x0c1) rfl (dk rfl) ul32 ul9 i5 rfl rfl rfl rfl g_20 (fun w_19 => ?_))
 refine sp rfl (OpT.nilCheck rfl (dk rfl) rfl rfl ?_)
 refine sp rfl (OpT.fieldPtr rfl (dk rfl) ul61 rfl i32 (by decide) rfl ?_)
 refine sp rfl (OpT.storeTo (i := 0) (cells' := [.d (.ptr bx0 0), .d (.ex w_19)]) rfl rfl i32 rfl rfl rfl (nb rfl) rfl ?_)
 refine TL'.nil (tN ?_)
 refine T.seq ?_
 refine T.rL ?_
 refine mw rfl ?_
 refine sp rfl (OpT.lenStr rfl (dk rfl) ul9 rfl ?_)
 refine aw rfl ?_
 refine aw rfl ?_
 refine TL'.nil (tN ?_)
 refine T.ret ?_
 exact Fin.doneK (.cons _ _ _ _ (.tmp 4 _ rfl) (.cons _ _ _ _ (.tmp 5 _ rfl) .nil)) (.cons 0 rfl (.cons 0 rfl (.nil _))) (by cases h; exact ⟨gl [w_19], rfl, rfl⟩)
abbrev stringslite_IndexByte_q (r : Int) : Exit → St → Prop := retS Tryd.prog Tryd.f51 (fun y t => y = (.int .i64 r) ∧ t = [])
theorem stringslite_IndexByte_T (K : Nat) {x0 : ByteArray} {x1 : Int} {r : Int} (h : stringslite_IndexByte K x0 x1 = some r) : CallR Tryd.prog 51 [.str x0, .int .u8 x1] [] (.int .i64 r) := by
 refine CallT.intro Tryd.func51 rfl (nb rfl) ?_
 show T Tryd.prog 8 (Code.at [] (codeOf Tryd.f51)) ⟨paramSlots 0 [.str x0, .int .u8 x1], []⟩ (stringslite_IndexByte_q r)
 unfold stringslite_IndexByte at h
 refine T.seq ?_
 refine T.rL ?_
 refine aw rfl ?_
 refine TL'.nil (tN ?_)
 refine T.seq ?_
 refine T.rL ?_
 refine mw rfl ?_
 refine mw rfl ?_
 refine sp rfl (OpT.indexByteStr rfl (dk rfl) Tryd.func66 rfl rfl (by kernel_rfl) (by kernel_rfl) rfl rfl ?_)
 refine aw rfl ?_
 refine TL'.nil (tN ?_)
 refine T.ret ?_
 exact Fin.done (.cons _ _ _ _ (.tmp 4 _ rfl) .nil) (by cases h; exact ⟨rfl, rfl⟩)
abbrev strings_IndexByte_q (r : Int) : Exit → St → Prop := retS Tryd.prog Tryd.f26 (fun y t => y = (.int .i64 r) ∧ t = [])
theorem strings_IndexByte_T (K : Nat) {x0 : ByteArray} {x1 : Int} {r : Int} (h : strings_IndexByte K x0 x1 = some r) : CallR Tryd.prog 26 [.str x0, .int .u8 x1] [] (.int .i64 r) := by
 refine CallT.intro Tryd.func26 rfl (nb rfl) ?_
 show T Tryd.prog 8 (Code.at [] (codeOf Tryd.f26)) ⟨paramSlots 0 [.str x0, .int .u8 x1], []⟩ (strings_IndexByte_q r)
 unfold strings_IndexByte at h
 refine T.seq ?_
 refine T.rL ?_
 refine aw rfl ?_
 refine TL'.nil (tN ?_)
 refine T.seq ?_
 refine T.rL ?_
 refine mw rfl ?_
 refine mw rfl ?_
 obtain ⟨v_7, e_8, h⟩ := bind_some h
 refine sp rfl (OpT.callPA rfl (dk rfl) Tryd.func51 rfl rfl (Args.cons rfl (Args.cons rfl Args.nil)) (CallR.nil (stringslite_IndexByte_T K e_8)) ?_)
 refine aw rfl ?_
 refine TL'.nil (tN ?_)
 refine T.ret ?_
 exact Fin.done (.cons _ _ _ _ (.tmp 4 _ rfl) .nil) (by cases h; exact ⟨rfl, rfl⟩)
abbrev strconv_isPowerOfTwo_q (r : Bool) : Exit → St → Prop := retS Tryd.prog Tryd.f86 (fun y t => y = (.bool r) ∧ t = [])
theorem strconv_isPowerOfTwo_T (K : Nat) {x0 : Int} {r : Bool} (h : strconv_isPowerOfTwo K x0 = some r) : CallR Tryd.prog 86 [.int .i64 x0] [] (.bool r) := by
 refine CallT.intro Tryd.func86 rfl (nb rfl) ?_
 show T Tryd.prog 8 (Code.at [] (codeOf Tryd.f86)) ⟨paramSlots 0 [.int .i64 x0], []⟩ (strconv_isPowerOfTwo_q r)
 unfold strconv_isPowerOfTwo at h
 refine T.seq ?_
 refine T.rL ?_
 refine aw rfl ?_
 refine TL'.nil (tN ?_)
 refine T.seq ?_
 refine T.rL ?_
 refine mw rfl ?_
 refine mw rfl ?_
 refine sp rfl (OpT.int2 rfl rfl (dk rfl) rfl rfl ?_)
 refine sp rfl (OpT.int2 rfl rfl (dk rfl) rfl rfl ?_)
 refine sp rfl (OpT.int2 rfl rfl (dk rfl) rfl rfl ?_)
 refine aw rfl ?_
 refine TL'.nil (tN ?_)
 refine T.ret ?_
 exact Fin.done (.cons _ _ _ _ (.tmp 2 _ rfl) .nil) (by cases h; exact ⟨rfl, rfl⟩)
abbrev bits_TrailingZeros_q (r : Int) : Exit → St → Prop := retS Tryd.prog Tryd.f87 (fun y t => y = (.int .i64 r) ∧ t = [.ro 2 deBruijnD, .ro 3 deBruijn32D])
theorem bits_TrailingZeros_T (K : Nat) {x0 : Int} {r : Int} (h : bits_TrailingZeros K x0 = some r) : CallR Tryd.prog 87 [.int .u64 x0] [.ro 2 deBruijnD, .ro 3 deBruijn32D] (.int .i64 r) := by
 refine CallT.intro Tryd.func87 rfl (nb rfl) ?_
 show T Tryd.prog 8 (Code.at [] (codeOf Tryd.f87)) ⟨paramSlots 0 [.int .u64 x0], [.ro 2 deBruijnD, .ro 3 deBruijn32D]⟩ (bits_TrailingZeros_q r)
 unfold bits_TrailingZeros at h
 refine T.seq ?_
 refine T.rL ?_
 refine aw rfl ?_
 refine TL'.nil (tN ?_)
 refine T.seq ?_
 refine T.condF rfl rfl ?_
 refine T.skip (tN ?_)
 refine T.seq ?_
 refine T.rL ?_
 refine mw rfl ?_
 obtain ⟨v_9, e_10, h⟩ := bind_some h
 refine sp rfl (OpT.callRoA rfl (dk rfl) Tryd.func71 rfl rfl (Args.cons rfl Args.nil) (.cons 0 rfl (.nil)) (bits_TrailingZeros64_T K e_10) ?_)
 refine aw rfl ?_
 refine TL'.nil (tN ?_)
 refine T.ret ?_
 exact Fin.doneK (.cons _ _ _ _ (.tmp 2 _ rfl) .nil) (.cons 0 rfl (.cons 0 rfl (.nil _))) (by cases h; exact ⟨rfl, rfl⟩)
abbrev strconv_formatBits_q (r : (List Int) × ByteArray) : Exit → St → Prop := retS Tryd.prog Tryd.f70 (fun y t => y = (.tup [.sl false 1 (r.1.map (cI .u8)), .str r.2]) ∧ t = [.ro 2 deBruijnD, .ro 3 deBruijn32D])
abbrev strconv_formatBits_qs11 (r : (List Int) × ByteArray) : Exit → St → Prop := thenS (fun s' => T Tryd.prog 102 (Code.at [1, 1] (codeOf Tryd.f70)) s' ((strconv_formatBits_q r))) ((strconv_formatBits_q r))
abbrev strconv_formatBits_qs111111 (r : (List Int) × ByteArray) : Exit → St → Prop := thenS (fun s' => T Tryd.prog 102 (Code.at [1, 1, 1, 1, 1, 1] (codeOf Tryd.f70)) s' ((strconv_formatBits_q r))) ((strconv_formatBits_q r))
abbrev strconv_formatBits_qs111110101111 (r : (List Int) × ByteArray) : Exit → St → Prop := thenS (fun s' => T Tryd.prog 102 (Code.at [1, 1, 1, 1, 1, 0, 1, 0, 1, 1, 1, 1] (codeOf Tryd.f70)) s' ((strconv_formatBits_qs111111 r))) ((strconv_formatBits_qs111111 r))
abbrev strconv_formatBits_qb0x111110101111 (r : (List Int) × ByteArray) : Exit → St → Prop := inBlockS 0 ((strconv_formatBits_qs111110101111 r))
abbrev strconv_formatBits_qs1111101111 (r : (List Int) × ByteArray) : Exit → St → Prop := thenS (fun s' => T Tryd.prog 102 (Code.at [1, 1, 1, 1, 1, 0, 1, 1, 1, 1] (codeOf Tryd.f70)) s' ((strconv_formatBits_qs111111 r))) ((strconv_formatBits_qs111111 r))
abbrev strconv_formatBits_qb2x1111101111 (r : (List Int) × ByteArray) : Exit → St → Prop := inBlockS 2 ((strconv_formatBits_qs1111101111 r))
theorem strconv_formatBits_j0_T {r : (List Int) × ByteArray} (K : Nat) (x0 : List Int) (x1 : Int) (x2 : Int) (x3 : Bool) (x4 : Bool) (flx0 : Bool) (h : strconv_formatBits_j0 K x0 x1 x2 x3 x4 = some r) : T Tryd.prog 102 (Code.at [1, 0, 1, 0] (codeOf Tryd.f70)) ⟨[(0, .sl flx0 1 (x0.map (cI .u8))), (1, .int .u64 x1), (2, .int .i64 x2), (3, .bool x3), (4, .bool x4), (10, .c (.ex (.slice none 0 0))), (11, .str (⟨#[]⟩ : ByteArray))], [.ro 2 deBruijnD, .ro 3 deBruijn32D]⟩ (strconv_formatBits_qs11 r) := by
 unfold strconv_formatBits_j0 at h
 refine T.rL ?_
 cases h
theorem strconv_formatBits_j5_T {r : (List Int) × ByteArray} (K : Nat) (x0 : List Int) (x4 : Bool) (x13_5_4 : Int) (y12_5_3 : ArrN) (flx0 : Bool) (b12_5 : Nat) (h : strconv_formatBits_j5 K x0 x4 x13_5_4 y12_5_3 = some r) : T Tryd.prog 102 (Code.at [1, 1, 1, 1, 1, 1, 1] (codeOf Tryd.f70)) ⟨[(0, .sl flx0 1 (x0.map (cI .u8))), (4, .bool x4), (10, .c (.ex (.slice none 0 0))), (11, .str (⟨#[]⟩ : ByteArray)), (12, .ptr b12_5 0), (13, .int .i64 x13_5_4)], [.box b12_5 107 (ArrN.oc 65 .u8 y12_5_3), .ro 2 deBruijnD, .ro 3 deBruijn32D]⟩ (strconv_formatBits_q r) := by
 unfold strconv_formatBits_j5 at h
 refine T.seq ?_
 refine T.seq ?_
 refine T.rL ?_
 refine mw rfl ?_
 refine TL'.nil (tN ?_)
 rcases bif_some h with ⟨c_208, h⟩ | ⟨c_208, h⟩
 refine T.condT rfl c_208 ?_
 refine T.seq ?_
 refine T.rL ?_
 refine mw rfl ?_
 refine mw rfl ?_
 obtain ⟨g_209, h⟩ := ck_some h
 refine sp rfl (OpT.sliceBoxLow rfl (dk rfl) ul107 i5 rfl rfl g_209 ?_)
 cases h
 refine T.condF rfl c_208 ?_
 refine T.skip (tN ?_)
 refine T.seq ?_
 refine T.rL ?_
 refine mw rfl ?_
 obtain ⟨g_210, h⟩ := ck_some h
 refine sp rfl (OpT.sliceBoxLow rfl (dk rfl) ul107 i5 rfl rfl g_210 ?_)
 refine sp rfl (OpT.convBytesBox (i := 0) (n := 65) (a := y12_5_3) rfl (dk rfl) ul32 ul5 ul9 rfl rfl (by have := g_210; omega) ?_)
 refine aw rfl ?_
 refine TL'.nil (tN ?_)
 refine T.ret ?_
 refine Fin.turn (Turn.nilSl 10 false 1 rfl) ?_
 exact Fin.doneK (.cons _ _ _ _ (.tmp 10 _ rfl) (.cons _ _ _ _ (.tmp 11 _ rfl) .nil)) (.cons 1 rfl (.cons 1 rfl (.nil _))) (by cases h; exact ⟨rfl, rfl⟩)
theorem strconv_formatBits_j4_T {r : (List Int) × ByteArray} (K : Nat) (x0 : List Int) (x3 : Bool) (x4 : Bool) (x13_4_5 : Int) (y12_4_4 : ArrN) (flx0 : Bool) (b12_4 : Nat) (h : strconv_formatBits_j4 K x0 x3 x4 x13_4_5 y12_4_4 = some r) : T Tryd.prog 102 (Code.at [1, 1, 1, 1, 1, 1] (codeOf Tryd.f70)) ⟨[(0, .sl flx0 1 (x0.map (cI .u8))), (3, .bool x3), (4, .bool x4), (10, .c (.ex (.slice none 0 0))), (11, .str (⟨#[]⟩ : ByteArray)), (12, .ptr b12_4 0), (13, .int .i64 x13_4_5)], [.box b12_4 107 (ArrN.oc 65 .u8 y12_4_4), .ro 2 deBruijnD, .ro 3 deBruijn32D]⟩ (strconv_formatBits_q r) := by
 unfold strconv_formatBits_j4 at h
 refine T.seq ?_
 refine T.seq ?_
 refine T.rL ?_
 refine mw rfl ?_
 refine TL'.nil (tN ?_)
 rcases bif_some h with ⟨c_206, h⟩ | ⟨c_206, h⟩
 refine T.condT rfl c_206 ?_
 refine T.seq ?_
 refine T.rL ?_
 refine mw rfl ?_
 refine sp rfl (OpT.int2 rfl rfl (dk rfl) rfl rfl ?_)
 refine aw rfl ?_
 refine TL'.nil (tN ?_)
 refine T.rL ?_
 refine mw rfl ?_
 obtain ⟨g_207, h⟩ := ck_some h
 refine sp rfl (OpT.indexPtr rfl (dk rfl) ul107 i5 rfl rfl g_207.1 g_207.2 ?_)
 refine sp rfl (OpT.storeTo (i := 0) (cells' := (ArrN.oc 65 .u8 (ArrN.set y12_4_4 (IntKind.i64.wrap (x13_4_5 - (1 : Int))) (45 : Int)))) rfl rfl i5 rfl rfl rfl (ArrN.oc_lt (n := 65) (k := .u8) (a := y12_4_4) (pre := []) (post := []) g_207.1 g_207.2) (ArrN.oc_set (n := 65) (k := .u8) (a := y12_4_4) (pre := []) (post := []) g_207.1 g_207.2) ?_)
 refine TL'.nil (tN ?_)
 refine T.by_turn ?_ (strconv_formatBits_j5_T K x0 x4 (IntKind.i64.wrap (x13_4_5 - (1 : Int))) (ArrN.set y12_4_4 (IntKind.i64.wrap (x13_4_5 - (1 : Int))) (45 : Int)) flx0 b12_4 h)
 exact Turn.rp (.cons rfl (.cons rfl (.cons rfl (.cons rfl (.cons rfl (.cons rfl (.nil _))))))) (.c .z (.c .z (.c .z (.n _))))
 refine T.condF rfl c_206 ?_
 refine T.skip (tN ?_)
 refine T.by_turn ?_ (strconv_formatBits_j5_T K x0 x4 x13_4_5 y12_4_4 flx0 b12_4 h)
 exact Turn.rp (.cons rfl (.cons rfl (.cons rfl (.cons rfl (.cons rfl (.cons rfl (.nil _))))))) (.c .z (.c .z (.c .z (.n _))))
theorem strconv_formatBits_l2_T {r : (List Int) × ByteArray} (K : Nat) : ∀ (k : Nat), ∀ (x0 : List Int) (x1_2_1 : Int) (x3 : Bool) (x4 : Bool) (x13_2_6 : Int) (x14_2_7 : Int) (x15_2_8 : Int) (x16_2_9 : Int) (y12_2_5 : ArrN) (flx0 : Bool) (b12_2 : Nat), strconv_formatBits_l2 K k x0 x1_2_1 x3 x4 x13_2_6 x14_2_7 x15_2_8 x16_2_9 y12_2_5 = some r → TL Tryd.prog 102 (Code.at [1, 1, 1, 1, 1, 0, 1, 0, 1, 1, 1, 0, 0, 0] (codeOf Tryd.f70)) ⟨[(0, .sl flx0 1 (x0.map (cI .u8))), (1, .int .u64 x1_2_1), (3, .bool x3), (4, .bool x4), (10, .c (.ex (.slice none 0 0))), (11, .str (⟨#[]⟩ : ByteArray)), (12, .ptr b12_2 0), (13, .int .i64 x13_2_6), (14, .int .u64 x14_2_7), (15, .int .u64 x15_2_8), (16, .int .u64 x16_2_9)], [.box b12_2 107 (ArrN.oc 65 .u8 y12_2_5), .ro 2 deBruijnD, .ro 3 deBruijn32D]⟩ (strconv_formatBits_qb0x111110101111 r) := by
  intro k
  induction k with
  | zero =>
    intro x0 x1_2_1 x3 x4 x13_2_6 x14_2_7 x15_2_8 x16_2_9 y12_2_5 flx0 b12_2 h
    cases (show (none : Option ((List Int) × ByteArray)) = some r from h)
  | succ k ih =>
    intro x0 x1_2_1 x3 x4 x13_2_6 x14_2_7 x15_2_8 x16_2_9 y12_2_5 flx0 b12_2 h
    rw [strconv_formatBits_l2] at h
    refine TL.round ?_
    refine T.seq ?_
    refine T.seq ?_
    refine T.rL ?_
    refine mv rfl rfl rfl rfl rfl ?_
    refine mv rfl rfl rfl rfl rfl ?_
    refine sp rfl (OpT.int2 rfl rfl (dl rfl rfl) rfl rfl ?_)
    refine TL'.nil (tN ?_)
    rcases bif_some h with ⟨c_200, h⟩ | ⟨c_200, h⟩
    · refine T.condT rfl c_200 ?_
      refine T.skip (tN ?_)
      refine T.block ?_
      refine T.seq ?_
      refine T.rL ?_
      refine mv rfl rfl rfl rfl rfl ?_
      refine sp rfl (OpT.int2 rfl rfl (dl rfl rfl) rfl rfl ?_)
      refine asg rfl rfl rfl rfl rfl ?_
      refine TL'.nil (tN ?_)
      refine T.seq ?_
      refine T.rL ?_
      refine mv rfl rfl rfl rfl rfl ?_
      refine mv rfl rfl rfl rfl rfl ?_
      refine mv rfl rfl rfl rfl rfl ?_
      refine sp rfl (OpT.int2 rfl rfl (dl rfl rfl) rfl rfl ?_)
      obtain ⟨g_201, h⟩ := ck_some h
      refine sp rfl (OpT.indexStr rfl (dl rfl rfl) Tryd.underlying9 rfl rfl g_201.1 g_201.2 ?_)
      obtain ⟨g_202, h⟩ := ck_some h
      refine sp rfl (OpT.indexPtr rfl (dl rfl rfl) Tryd.underlying107 i5 rfl rfl g_202.1 g_202.2 ?_)
      refine sp rfl (OpT.storeTo (i := 0) (cells' := (ArrN.oc 65 .u8 (ArrN.set y12_2_5 (IntKind.i64.wrap (x13_2_6 - (1 : Int))) (bt (⟨#[48, 49, 50, 51, 52, 53, 54, 55, 56, 57, 97, 98, 99, 100, 101, 102, 103, 104, 105, 106, 107, 108, 109, 110, 111, 112, 113, 114, 115, 116, 117, 118, 119, 120, 121, 122]⟩ : ByteArray) (bits .and .u64 x1_2_1 x16_2_9))))) rfl rfl i5 rfl rfl rfl (ArrN.oc_lt (n := 65) (k := .u8) (a := y12_2_5) (pre := []) (post := []) g_202.1 g_202.2) (ArrN.oc_set (n := 65) (k := .u8) (a := y12_2_5) (pre := []) (post := []) g_202.1 g_202.2) ?_)
      refine TL'.nil (tN ?_)
      refine T.rL ?_
      refine mv rfl rfl rfl rfl rfl ?_
      refine mv rfl rfl rfl rfl rfl ?_
      obtain ⟨g_203, h⟩ := ck_some h
      refine sp rfl (OpT.shr rfl (dl rfl rfl) rfl rfl g_203 ?_)
      refine asg rfl rfl rfl rfl rfl ?_
      refine TL'.nil (inBlock_normal (tN ?_))
      refine TL.by_turn ?_ (ih x0 (Int.fdiv x1_2_1 (2 ^ min (Int.toNat x14_2_7) IntKind.u64.bits)) x3 x4 (IntKind.i64.wrap (x13_2_6 - (1 : Int))) x14_2_7 x15_2_8 x16_2_9 (ArrN.set y12_2_5 (IntKind.i64.wrap (x13_2_6 - (1 : Int))) (bt (⟨#[48, 49, 50, 51, 52, 53, 54, 55, 56, 57, 97, 98, 99, 100, 101, 102, 103, 104, 105, 106, 107, 108, 109, 110, 111, 112, 113, 114, 115, 116, 117, 118, 119, 120, 121, 122]⟩ : ByteArray) (bits .and .u64 x1_2_1 x16_2_9))) flx0 b12_2 h)
      exact Turn.rp (.cons rfl (.cons rfl (.cons rfl (.cons rfl (.cons rfl (.cons rfl (.cons rfl (.cons rfl (.cons rfl (.cons rfl (.cons rfl (.nil _)))))))))))) (.c .z (.c .z (.c .z (.n _))))
    · refine T.condF rfl c_200 ?_
      refine T.exit (thenS_exit (thenS_exit (inBlock_exit (tN ?_))))
      refine T.seq ?_
      refine T.rL ?_
      refine mv rfl rfl rfl rfl rfl ?_
      refine sp rfl (OpT.int2 rfl rfl (dl rfl rfl) rfl rfl ?_)
      refine asg rfl rfl rfl rfl rfl ?_
      refine TL'.nil (tN ?_)
      refine T.rL ?_
      refine mv rfl rfl rfl rfl rfl ?_
      refine mv rfl rfl rfl rfl rfl ?_
      obtain ⟨g_204, h⟩ := ck_some h
      refine sp rfl (OpT.indexStr rfl (dl rfl rfl) Tryd.underlying9 rfl rfl g_204.1 g_204.2 ?_)
      obtain ⟨g_205, h⟩ := ck_some h
      refine sp rfl (OpT.indexPtr rfl (dl rfl rfl) Tryd.underlying107 i5 rfl rfl g_205.1 g_205.2 ?_)
      refine sp rfl (OpT.storeTo (i := 0) (cells' := (ArrN.oc 65 .u8 (ArrN.set y12_2_5 (IntKind.i64.wrap (x13_2_6 - (1 : Int))) (bt (⟨#[48, 49, 50, 51, 52, 53, 54, 55, 56, 57, 97, 98, 99, 100, 101, 102, 103, 104, 105, 106, 107, 108, 109, 110, 111, 112, 113, 114, 115, 116, 117, 118, 119, 120, 121, 122]⟩ : ByteArray) x1_2_1)))) rfl rfl i5 rfl rfl rfl (ArrN.oc_lt (n := 65) (k := .u8) (a := y12_2_5) (pre := []) (post := []) g_205.1 g_205.2) (ArrN.oc_set (n := 65) (k := .u8) (a := y12_2_5) (pre := []) (post := []) g_205.1 g_205.2) ?_)
      refine TL'.nil (tN ?_)
      refine T.by_turn ?_ (strconv_formatBits_j4_T K x0 x3 x4 (IntKind.i64.wrap (x13_2_6 - (1 : Int))) (ArrN.set y12_2_5 (IntKind.i64.wrap (x13_2_6 - (1 : Int))) (bt (⟨#[48, 49, 50, 51, 52, 53, 54, 55, 56, 57, 97, 98, 99, 100, 101, 102, 103, 104, 105, 106, 107, 108, 109, 110, 111, 112, 113, 114, 115, 116, 117, 118, 119, 120, 121, 122]⟩ : ByteArray) x1_2_1)) flx0 b12_2 h)
      exact Turn.rp (.cons rfl (.cons rfl (.cons rfl (.cons rfl (.cons rfl (.cons rfl (.cons rfl (.nil _)))))))) (.c .z (.c .z (.c .z (.n _))))
theorem strconv_formatBits_l3_T {r : (List Int) × ByteArray} (K : Nat) : ∀ (k : Nat), ∀ (x0 : List Int) (x1_3_1 : Int) (x3 : Bool) (x4 : Bool) (x13_3_6 : Int) (x17_3_7 : Int) (y12_3_5 : ArrN) (flx0 : Bool) (b12_3 : Nat), strconv_formatBits_l3 K k x0 x1_3_1 x3 x4 x13_3_6 x17_3_7 y12_3_5 = some r → TL Tryd.prog 102 (Code.at [1, 1, 1, 1, 1, 0, 1, 1, 1, 0, 0, 0] (codeOf Tryd.f70)) ⟨[(0, .sl flx0 1 (x0.map (cI .u8))), (1, .int .u64 x1_3_1), (3, .bool x3), (4, .bool x4), (10, .c (.ex (.slice none 0 0))), (11, .str (⟨#[]⟩ : ByteArray)), (12, .ptr b12_3 0), (13, .int .i64 x13_3_6), (17, .int .u64 x17_3_7)], [.box b12_3 107 (ArrN.oc 65 .u8 y12_3_5), .ro 2 deBruijnD, .ro 3 deBruijn32D]⟩ (strconv_formatBits_qb2x1111101111 r) := by
  intro k
  induction k with
  | zero =>
    intro x0 x1_3_1 x3 x4 x13_3_6 x17_3_7 y12_3_5 flx0 b12_3 h
    cases (show (none : Option ((List Int) × ByteArray)) = some r from h)
  | succ k ih =>
    intro x0 x1_3_1 x3 x4 x13_3_6 x17_3_7 y12_3_5 flx0 b12_3 h
    rw [strconv_formatBits_l3] at h
    refine TL.round ?_
    refine T.seq ?_
    refine T.seq ?_
    refine T.rL ?_
    refine mv rfl rfl rfl rfl rfl ?_
    refine mv rfl rfl rfl rfl rfl ?_
    refine sp rfl (OpT.int2 rfl rfl (dl rfl rfl) rfl rfl ?_)
    refine TL'.nil (tN ?_)
    rcases bif_some h with ⟨c_211, h⟩ | ⟨c_211, h⟩
    · refine T.condT rfl c_211 ?_
      refine T.skip (tN ?_)
      refine T.block ?_
      refine T.seq ?_
      refine T.rL ?_
      refine mv rfl rfl rfl rfl rfl ?_
      refine sp rfl (OpT.int2 rfl rfl (dl rfl rfl) rfl rfl ?_)
      refine asg rfl rfl rfl rfl rfl ?_
      refine TL'.nil (tN ?_)
      refine T.seq ?_
      refine T.rL ?_
      refine mv rfl rfl rfl rfl rfl ?_
      refine mv rfl rfl rfl rfl rfl ?_
      obtain ⟨g_212, h⟩ := ck_some h
      refine sp rfl (OpT.quo rfl (dl rfl rfl) rfl rfl g_212 ?_)
      refine asg rfl rfl rfl rfl rfl ?_
      refine TL'.nil (tN ?_)
      refine T.seq ?_
      refine T.rL ?_
      refine mv rfl rfl rfl rfl rfl ?_
      refine mv rfl rfl rfl rfl rfl ?_
      refine mv rfl rfl rfl rfl rfl ?_
      refine mv rfl rfl rfl rfl rfl ?_
      refine sp rfl (OpT.int2 rfl rfl (dl rfl rfl) rfl rfl ?_)
      refine sp rfl (OpT.int2 rfl rfl (dl rfl rfl) rfl rfl ?_)
      obtain ⟨g_213, h⟩ := ck_some h
      refine sp rfl (OpT.indexStr rfl (dl rfl rfl) Tryd.underlying9 rfl rfl g_213.1 g_213.2 ?_)
      obtain ⟨g_214, h⟩ := ck_some h
      refine sp rfl (OpT.indexPtr rfl (dl rfl rfl) Tryd.underlying107 i5 rfl rfl g_214.1 g_214.2 ?_)
      refine sp rfl (OpT.storeTo (i := 0) (cells' := (ArrN.oc 65 .u8 (ArrN.set y12_3_5 (IntKind.i64.wrap (x13_3_6 - (1 : Int))) (bt (⟨#[48, 49, 50, 51, 52, 53, 54, 55, 56, 57, 97, 98, 99, 100, 101, 102, 103, 104, 105, 106, 107, 108, 109, 110, 111, 112, 113, 114, 115, 116, 117, 118, 119, 120, 121, 122]⟩ : ByteArray) (IntKind.u64.wrap (x1_3_1 - (IntKind.u64.wrap ((IntKind.u64.wrap (Int.tdiv x1_3_1 x17_3_7)) * x17_3_7)))))))) rfl rfl i5 rfl rfl rfl (ArrN.oc_lt (n := 65) (k := .u8) (a := y12_3_5) (pre := []) (post := []) g_214.1 g_214.2) (ArrN.oc_set (n := 65) (k := .u8) (a := y12_3_5) (pre := []) (post := []) g_214.1 g_214.2) ?_)
      refine TL'.nil (tN ?_)
      refine T.rL ?_
      refine mv rfl rfl rfl rfl rfl ?_
      refine asg rfl rfl rfl rfl rfl ?_
      refine TL'.nil (inBlock_normal (tN ?_))
      refine TL.by_turn ?_ (ih x0 (IntKind.u64.wrap (Int.tdiv x1_3_1 x17_3_7)) x3 x4 (IntKind.i64.wrap (x13_3_6 - (1 : Int))) x17_3_7 (ArrN.set y12_3_5 (IntKind.i64.wrap (x13_3_6 - (1 : Int))) (bt (⟨#[48, 49, 50, 51, 52, 53, 54, 55, 56, 57, 97, 98, 99, 100, 101, 102, 103, 104, 105, 106, 107, 108, 109, 110, 111, 112, 113, 114, 115, 116, 117, 118, 119, 120, 121, 122]⟩ : ByteArray) (IntKind.u64.wrap (x1_3_1 - (IntKind.u64.wrap ((IntKind.u64.wrap (Int.tdiv x1_3_1 x17_3_7)) * x17_3_7)))))) flx0 b12_3 h)
      exact Turn.rp (.cons rfl (.cons rfl (.cons rfl (.cons rfl (.cons rfl (.cons rfl (.cons rfl (.cons rfl (.cons rfl (.nil _)))))))))) (.c .z (.c .z (.c .z (.n _))))
    · refine T.condF rfl c_211 ?_
      refine T.exit (thenS_exit (thenS_exit (inBlock_exit (tN ?_))))
      refine T.seq ?_
      refine T.rL ?_
      refine mv rfl rfl rfl rfl rfl ?_
      refine sp rfl (OpT.int2 rfl rfl (dl rfl rfl) rfl rfl ?_)
      refine asg rfl rfl rfl rfl rfl ?_
      refine TL'.nil (tN ?_)
      refine T.rL ?_
      refine mv rfl rfl rfl rfl rfl ?_
      refine mv rfl rfl rfl rfl rfl ?_
      obtain ⟨g_215, h⟩ := ck_some h
      refine sp rfl (OpT.indexStr rfl (dl rfl rfl) Tryd.underlying9 rfl rfl g_215.1 g_215.2 ?_)
      obtain ⟨g_216, h⟩ := ck_some h
      refine sp rfl (OpT.indexPtr rfl (dl rfl rfl) Tryd.underlying107 i5 rfl rfl g_216.1 g_216.2 ?_)
      refine sp rfl (OpT.storeTo (i := 0) (cells' := (ArrN.oc 65 .u8 (ArrN.set y12_3_5 (IntKind.i64.wrap (x13_3_6 - (1 : Int))) (bt (⟨#[48, 49, 50, 51, 52, 53, 54, 55, 56, 57, 97, 98, 99, 100, 101, 102, 103, 104, 105, 106, 107, 108, 109, 110, 111, 112, 113, 114, 115, 116, 117, 118, 119, 120, 121, 122]⟩ : ByteArray) x1_3_1)))) rfl rfl i5 rfl rfl rfl (ArrN.oc_lt (n := 65) (k := .u8) (a := y12_3_5) (pre := []) (post := []) g_216.1 g_216.2) (ArrN.oc_set (n := 65) (k := .u8) (a := y12_3_5) (pre := []) (post := []) g_216.1 g_216.2) ?_)
      refine TL'.nil (tN ?_)
      refine T.by_turn ?_ (strconv_formatBits_j4_T K x0 x3 x4 (IntKind.i64.wrap (x13_3_6 - (1 : Int))) (ArrN.set y12_3_5 (IntKind.i64.wrap (x13_3_6 - (1 : Int))) (bt (⟨#[48, 49, 50, 51, 52, 53, 54, 55, 56, 57, 97, 98, 99, 100, 101, 102, 103, 104, 105, 106, 107, 108, 109, 110, 111, 112, 113, 114, 115, 116, 117, 118, 119, 120, 121, 122]⟩ : ByteArray) x1_3_1)) flx0 b12_3 h)
      exact Turn.rp (.cons rfl (.cons rfl (.cons rfl (.cons rfl (.cons rfl (.cons rfl (.cons rfl (.nil _)))))))) (.c .z (.c .z (.c .z (.n _))))
theorem strconv_formatBits_j1_T {r : (List Int) × ByteArray} (K : Nat) (x0 : List Int) (x1_1_1 : Int) (x2 : Int) (x3 : Bool) (x4 : Bool) (y12_1_6 : ArrN) (flx0 : Bool) (b12_1 : Nat) (h : strconv_formatBits_j1 K x0 x1_1_1 x2 x3 x4 y12_1_6 = some r) : T Tryd.prog 102 (Code.at [1, 1, 1, 1, 1] (codeOf Tryd.f70)) ⟨[(0, .sl flx0 1 (x0.map (cI .u8))), (1, .int .u64 x1_1_1), (2, .int .i64 x2), (3, .bool x3), (4, .bool x4), (10, .c (.ex (.slice none 0 0))), (11, .str (⟨#[]⟩ : ByteArray)), (12, .ptr b12_1 0), (13, .int .i64 (65 : Int))], [.box b12_1 107 (ArrN.oc 65 .u8 y12_1_6), .ro 2 deBruijnD, .ro 3 deBruijn32D]⟩ (strconv_formatBits_q r) := by
 unfold strconv_formatBits_j1 at h
 refine T.seq ?_
 refine T.seq ?_
 refine T.rL ?_
 refine mw rfl ?_
 obtain ⟨v_195, e_196, h⟩ := bind_some h
 refine sp rfl (OpT.callPA rfl (dk rfl) Tryd.func86 rfl rfl (Args.cons rfl Args.nil) (CallR.nil (strconv_isPowerOfTwo_T K e_196)) ?_)
 refine TL'.nil (tN ?_)
 rcases bif_some h with ⟨c_197, h⟩ | ⟨c_197, h⟩
 refine T.condT rfl c_197 ?_
 refine T.seq ?_
 refine T.rL ?_
 refine mw rfl ?_
 refine sp rfl (OpT.convInt rfl (dk rfl) ul3 ul53 rfl ?_)
 obtain ⟨v_198, e_199, h⟩ := bind_some h
 refine sp rfl (OpT.callRoA rfl (dk rfl) Tryd.func87 rfl rfl (Args.cons rfl Args.nil) (.cons 1 rfl (.cons 2 rfl (.nil))) (bits_TrailingZeros_T K e_199) ?_)
 refine sp rfl (OpT.convInt rfl (dk rfl) ul3 ul53 rfl ?_)
 refine aw rfl ?_
 refine TL'.nil (tN ?_)
 refine T.seq ?_
 refine T.rL ?_
 refine mw rfl ?_
 refine sp rfl (OpT.convInt rfl (dk rfl) ul3 ul23 rfl ?_)
 refine aw rfl ?_
 refine TL'.nil (tN ?_)
 refine T.seq ?_
 refine T.rL ?_
 refine mw rfl ?_
 refine sp rfl (OpT.convInt rfl (dk rfl) ul3 ul53 rfl ?_)
 refine sp rfl (OpT.int2 rfl rfl (dk rfl) rfl rfl ?_)
 refine aw rfl ?_
 refine TL'.nil (tN ?_)
 refine T.seq ?_
 refine T.block ?_
 refine T.loop ?_
 refine TL.by_turn ?_ (strconv_formatBits_l2_T K K x0 x1_1_1 x3 x4 (65 : Int) (IntKind.u64.wrap v_198) (IntKind.u64.wrap x2) (IntKind.u64.wrap ((IntKind.u64.wrap x2) - (1 : Int))) y12_1_6 flx0 b12_1 h)
 exact Turn.rp (.cons rfl (.cons rfl (.cons rfl (.cons rfl (.cons rfl (.cons rfl (.cons rfl (.cons rfl (.cons rfl (.cons rfl (.cons rfl (.nil _)))))))))))) (.c .z (.c .z (.c .z (.n _))))
 refine T.condF rfl c_197 ?_
 refine T.seq ?_
 refine T.rL ?_
 refine mw rfl ?_
 refine sp rfl (OpT.convInt rfl (dk rfl) ul3 ul23 rfl ?_)
 refine aw rfl ?_
 refine TL'.nil (tN ?_)
 refine T.seq ?_
 refine T.block ?_
 refine T.loop ?_
 refine TL.by_turn ?_ (strconv_formatBits_l3_T K K x0 x1_1_1 x3 x4 (65 : Int) (IntKind.u64.wrap x2) y12_1_6 flx0 b12_1 h)
 exact Turn.rp (.cons rfl (.cons rfl (.cons rfl (.cons rfl (.cons rfl (.cons rfl (.cons rfl (.cons rfl (.cons rfl (.nil _)))))))))) (.c .z (.c .z (.c .z (.n _))))
theorem strconv_formatBits_T (K : Nat) {x0 : List Int} {x1 : Int} {x2 : Int} {x3 : Bool} {x4 : Bool} {flx0 : Bool} {r : (List Int) × ByteArray} (h : strconv_formatBits K x0 x1 x2 x3 x4 = some r) : CallR Tryd.prog 70 [.sl flx0 1 (x0.map (cI .u8)), .int .u64 x1, .int .i64 x2, .bool x3, .bool x4] [.ro 2 deBruijnD, .ro 3 deBruijn32D] (.tup [.sl false 1 (r.1.map (cI .u8)), .str r.2]) := by
 refine CallT.intro Tryd.func70 rfl (nb rfl) ?_
 show T Tryd.prog 102 (Code.at [] (codeOf Tryd.f70)) ⟨paramSlots 0 [.sl flx0 1 (x0.map (cI .u8)), .int .u64 x1, .int .i64 x2, .bool x3, .bool x4], [.ro 2 deBruijnD, .ro 3 deBruijn32D]⟩ (strconv_formatBits_q r)
 unfold strconv_formatBits at h
 refine T.seq ?_
 refine T.rL ?_
 refine aw rfl ?_
 refine aw rfl ?_
 refine TL'.nil (tN ?_)
 refine T.seq ?_
 refine T.seq ?_
 refine T.rL ?_
 refine mw rfl ?_
 refine sp rfl (OpT.int2 rfl rfl (dk rfl) rfl rfl ?_)
 refine mw rfl ?_
 rcases bif_some h with ⟨c_190, h⟩ | ⟨c_190, h⟩
 refine TL'.passU (.off _ _ _ _ rfl rfl rfl c_190) (dk rfl) ?_
 refine TL'.passU (.off _ _ _ _ rfl rfl rfl c_190) (dk rfl) ?_
 refine sp rfl (OpT.pickT rfl (dk rfl) rfl c_190 rfl ?_)
 refine mw rfl ?_
 refine TL'.passU (.off _ _ _ _ rfl rfl rfl rfl) (dk rfl) ?_
 refine TL'.passU (.off _ _ _ _ rfl rfl rfl rfl) (dk rfl) ?_
 refine sp rfl (OpT.pickT rfl (dk rfl) rfl rfl rfl ?_)
 refine TL'.nil (tN ?_)
 refine T.condT rfl rfl ?_
 refine T.by_turn ?_ (strconv_formatBits_j0_T K x0 x1 x2 x3 x4 flx0 h)
 exact Turn.rp (.cons rfl (.cons rfl (.cons rfl (.cons rfl (.cons rfl (.cons rfl (.cons rfl (.nil _)))))))) (.c .z (.c .z (.n _)))
 refine TL'.step (.on rfl rfl rfl c_190) (OpT.move rfl (dk rfl) rfl ?_)
 refine TL'.step (.on rfl rfl rfl c_190) (OpT.int2 rfl rfl (dk rfl) rfl rfl ?_)
 refine sp rfl (OpT.pickF rfl (dk rfl) rfl c_190 rfl ?_)
 refine mw rfl ?_
 rcases bif_some h with ⟨c_191, h⟩ | ⟨c_191, h⟩
 refine TL'.passU (.off _ _ _ _ rfl rfl rfl c_191) (dk rfl) ?_
 refine TL'.passU (.off _ _ _ _ rfl rfl rfl c_191) (dk rfl) ?_
 refine sp rfl (OpT.pickT rfl (dk rfl) rfl c_191 rfl ?_)
 refine TL'.nil (tN ?_)
 refine T.condT rfl rfl ?_
 refine T.by_turn ?_ (strconv_formatBits_j0_T K x0 x1 x2 x3 x4 flx0 h)
 exact Turn.rp (.cons rfl (.cons rfl (.cons rfl (.cons rfl (.cons rfl (.cons rfl (.cons rfl (.nil _)))))))) (.c .z (.c .z (.n _)))
 refine TL'.step (.on rfl rfl rfl c_191) (OpT.move rfl (dk rfl) rfl ?_)
 refine TL'.step (.on rfl rfl rfl c_191) (OpT.int2 rfl rfl (dk rfl) rfl rfl ?_)
 refine sp rfl (OpT.pickF rfl (dk rfl) rfl c_191 rfl ?_)
 refine TL'.nil (tN ?_)
 rcases bif_some h with ⟨c_192, h⟩ | ⟨c_192, h⟩
 refine T.condT rfl c_192 ?_
 refine T.by_turn ?_ (strconv_formatBits_j0_T K x0 x1 x2 x3 x4 flx0 h)
 exact Turn.rp (.cons rfl (.cons rfl (.cons rfl (.cons rfl (.cons rfl (.cons rfl (.cons rfl (.nil _)))))))) (.c .z (.c .z (.n _)))
 refine T.condF rfl c_192 ?_
 refine T.skip (tN ?_)
 refine T.seq ?_
 refine T.rL ?_
 refine sp rfl (OpT.alloc' rfl (dk rfl) i107 rfl (fun b_193 => ?_))
 refine TL'.nil (tN ?_)
 refine T.seq ?_
 refine T.rL ?_
 refine aw rfl ?_
 refine TL'.nil (tN ?_)
 refine T.seq ?_
 refine T.seq ?_
 refine T.rL ?_
 refine mw rfl ?_
 refine TL'.nil (tN ?_)
 rcases bif_some h with ⟨c_194, h⟩ | ⟨c_194, h⟩
 refine T.condT rfl c_194 ?_
 refine T.rL ?_
 refine mw rfl ?_
 refine sp rfl (OpT.neg rfl (dk rfl) rfl ?_)
 refine aw rfl ?_
 refine TL'.nil (tN ?_)
 refine T.by_turn ?_ (strconv_formatBits_j1_T K x0 (IntKind.u64.wrap (0 - x1)) x2 x3 x4 (ArrN.mk fun _ => 0) flx0 b_193 h)
 exact Turn.rp (.cons rfl (.cons rfl (.cons rfl (.cons rfl (.cons rfl (.cons rfl (.cons rfl (.cons rfl (.cons rfl (.nil _)))))))))) (.c .z (.c .z (.c .z (.n _))))
 refine T.condF rfl c_194 ?_
 refine T.skip (tN ?_)
 refine T.by_turn ?_ (strconv_formatBits_j1_T K x0 x1 x2 x3 x4 (ArrN.mk fun _ => 0) flx0 b_193 h)
 exact Turn.rp (.cons rfl (.cons rfl (.cons rfl (.cons rfl (.cons rfl (.cons rfl (.cons rfl (.cons rfl (.cons rfl (.nil _)))))))))) (.c .z (.c .z (.c .z (.n _))))
abbrev strconv_FormatUint_f52_q (r : ByteArray) : Exit → St → Prop := retS Tryd.prog Tryd.f52 (fun y t => y = (.str r) ∧ t = [.ro 2 deBruijnD, .ro 3 deBruijn32D])
theorem strconv_FormatUint_f52_T (K : Nat) {x0 : Int} {x1 : Int} {r : ByteArray} (h : strconv_FormatUint_f52 K x0 x1 = some r) : CallR Tryd.prog 52 [.int .u64 x0, .int .i64 x1] [.ro 2 deBruijnD, .ro 3 deBruijn32D] (.str r) := by
 refine CallT.intro Tryd.func52 rfl (nb rfl) ?_
 show T Tryd.prog 32 (Code.at [] (codeOf Tryd.f52)) ⟨paramSlots 0 [.int .u64 x0, .int .i64 x1], [.ro 2 deBruijnD, .ro 3 deBruijn32D]⟩ (strconv_FormatUint_f52_q r)
 unfold strconv_FormatUint_f52 at h
 refine T.seq ?_
 refine T.rL ?_
 refine aw rfl ?_
 refine TL'.nil (tN ?_)
 refine T.seq ?_
 refine T.seq ?_
 refine T.rL ?_
 refine mw rfl ?_
 refine sp rfl (OpT.int2 rfl rfl (dk rfl) rfl rfl ?_)
 refine TL'.nil (tN ?_)
 rcases bif_some h with ⟨c_21, h⟩ | ⟨c_21, h⟩
 refine T.condT rfl c_21 ?_
 refine T.seq ?_
 refine T.seq ?_
 refine T.rL ?_
 refine mw rfl ?_
 refine sp rfl (OpT.int2 rfl rfl (dk rfl) rfl rfl ?_)
 refine TL'.nil (tN ?_)
 rcases bif_some h with ⟨c_22, h⟩ | ⟨c_22, h⟩
 refine T.condT rfl c_22 ?_
 refine T.seq ?_
 refine T.rL ?_
 refine mw rfl ?_
 refine sp rfl (OpT.convInt rfl (dk rfl) ul23 ul3 rfl ?_)
 cases h
 refine T.condF rfl c_22 ?_
 refine T.skip (tN ?_)
 refine T.seq ?_
 refine T.rL ?_
 refine sp rfl (OpT.alloc' rfl (dk rfl) i94 rfl (fun b_23 => ?_))
 refine TL'.nil (tN ?_)
 refine T.seq ?_
 refine T.rL ?_
 refine mw rfl ?_
 cases h
 refine T.condF rfl c_21 ?_
 refine T.skip (tN ?_)
 refine T.seq ?_
 refine T.rL ?_
 refine mw rfl ?_
 refine mw rfl ?_
 obtain ⟨v_24, e_25, h⟩ := bind_some h
 refine sp rfl (OpT.callRoA rfl (dk rfl) Tryd.func70 rfl rfl (Args.nilSl rfl (Args.cons rfl (Args.cons rfl (Args.cons rfl (Args.cons rfl Args.nil))))) (.cons 0 rfl (.cons 1 rfl (.nil))) (strconv_formatBits_T K (flx0 := false) e_25) ?_)
 refine mw rfl ?_
 refine sp rfl (OpT.extract rfl (dk rfl) rfl rfl ?_)
 refine sp rfl (OpT.extract rfl (dk rfl) rfl rfl ?_)
 refine aw rfl ?_
 refine aw rfl ?_
 refine TL'.nil (tN ?_)
 refine T.seq ?_
 refine T.rL ?_
 refine mw rfl ?_
 refine aw rfl ?_
 refine TL'.nil (tN ?_)
 refine T.ret ?_
 exact Fin.doneK (.cons _ _ _ _ (.tmp 4 _ rfl) .nil) (.cons 0 rfl (.cons 0 rfl (.nil _))) (by cases h; exact ⟨rfl, rfl⟩)
abbrev strconv_FormatUint_q (r : ByteArray) : Exit → St → Prop := retS Tryd.prog Tryd.f27 (fun y t => y = (.str r) ∧ t = [.ro 2 deBruijnD, .ro 3 deBruijn32D])
theorem strconv_FormatUint_T (K : Nat) {x0 : Int} {x1 : Int} {r : ByteArray} (h : strconv_FormatUint K x0 x1 = some r) : CallR Tryd.prog 27 [.int .u64 x0, .int .i64 x1] [.ro 2 deBruijnD, .ro 3 deBruijn32D] (.str r) := by
 refine CallT.intro Tryd.func27 rfl (nb rfl) ?_
 show T Tryd.prog 8 (Code.at [] (codeOf Tryd.f27)) ⟨paramSlots 0 [.int .u64 x0, .int .i64 x1], [.ro 2 deBruijnD, .ro 3 deBruijn32D]⟩ (strconv_FormatUint_q r)
 unfold strconv_FormatUint at h
 refine T.seq ?_
 refine T.rL ?_
 refine aw rfl ?_
 refine TL'.nil (tN ?_)
 refine T.seq ?_
 refine T.rL ?_
 refine mw rfl ?_
 refine mw rfl ?_
 obtain ⟨v_7, e_8, h⟩ := bind_some h
 refine sp rfl (OpT.callRoA rfl (dk rfl) Tryd.func52 rfl rfl (Args.cons rfl (Args.cons rfl Args.nil)) (.cons 0 rfl (.cons 1 rfl (.nil))) (strconv_FormatUint_f52_T K e_8) ?_)
 refine aw rfl ?_
 refine TL'.nil (tN ?_)
 refine T.ret ?_
 exact Fin.doneK (.cons _ _ _ _ (.tmp 4 _ rfl) .nil) (.cons 0 rfl (.cons 0 rfl (.nil _))) (by cases h; exact ⟨rfl, rfl⟩)
abbrev print_Byte_q (r : ByteArray) : Exit → St → Prop := retS Tryd.prog Tryd.f12 (fun y t => y = (.str r) ∧ t = [.ro 2 deBruijnD, .ro 3 deBruijn32D])
abbrev print_Byte_qs11 (r : ByteArray) : Exit → St → Prop := thenS (fun s' => T Tryd.prog 40 (Code.at [1, 1] (codeOf Tryd.f12)) s' ((print_Byte_q r))) ((print_Byte_q r))
abbrev print_Byte_qb0x11 (r : ByteArray) : Exit → St → Prop := inBlockS 0 ((print_Byte_qs11 r))
theorem print_Byte_j0_T {r : ByteArray} (K : Nat) (x0 : Int) (h : print_Byte_j0 K x0 = some r) : T Tryd.prog 40 (Code.at [1, 0, 0, 1, 1, 1, 1, 1, 1, 1, 1, 1, 0] (codeOf Tryd.f12)) ⟨[(0, .int .u8 x0)], [.ro 2 deBruijnD, .ro 3 deBruijn32D]⟩ (print_Byte_qb0x11 r) := by
 unfold print_Byte_j0 at h
 refine T.seq ?_
 refine T.rL ?_
 refine mw rfl ?_
 refine sp rfl (OpT.shr rfl (dk rfl) rfl rfl (by decide) ?_)
 refine sp rfl (OpT.convInt rfl (dk rfl) ul5 ul23 rfl ?_)
 obtain ⟨v_84, e_85, h⟩ := bind_some h
 refine sp rfl (OpT.callRoA rfl (dk rfl) Tryd.func27 rfl rfl (Args.cons rfl (Args.cons rfl Args.nil)) (.cons 0 rfl (.cons 1 rfl (.nil))) (strconv_FormatUint_T K e_85) ?_)
 obtain ⟨g_86, h⟩ := ck_some h
 refine sp rfl (OpT.str_add rfl (dk rfl) rfl rfl g_86 ?_)
 refine mw rfl ?_
 refine sp rfl (OpT.int2 rfl rfl (dk rfl) rfl rfl ?_)
 refine sp rfl (OpT.convInt rfl (dk rfl) ul5 ul23 rfl ?_)
 obtain ⟨v_87, e_88, h⟩ := bind_some h
 refine sp rfl (OpT.callRoA rfl (dk rfl) Tryd.func27 rfl rfl (Args.cons rfl (Args.cons rfl Args.nil)) (.cons 0 rfl (.cons 1 rfl (.nil))) (strconv_FormatUint_T K e_88) ?_)
 obtain ⟨g_89, h⟩ := ck_some h
 refine sp rfl (OpT.str_add rfl (dk rfl) rfl rfl g_89 ?_)
 refine aw rfl ?_
 refine TL'.nil (tN ?_)
 refine T.ret (inBlock_ret (thenS_ret ?_))
 exact Fin.doneK (.cons _ _ _ _ (.tmp 2 _ rfl) .nil) (.cons 0 rfl (.cons 0 rfl (.nil _))) (by cases h; exact ⟨rfl, rfl⟩)
theorem print_Byte_T (K : Nat) {x0 : Int} {r : ByteArray} (h : print_Byte K x0 = some r) : CallR Tryd.prog 12 [.int .u8 x0] [.ro 2 deBruijnD, .ro 3 deBruijn32D] (.str r) := by
 refine CallT.intro Tryd.func12 rfl (nb rfl) ?_
 show T Tryd.prog 40 (Code.at [] (codeOf Tryd.f12)) ⟨paramSlots 0 [.int .u8 x0], [.ro 2 deBruijnD, .ro 3 deBruijn32D]⟩ (print_Byte_q r)
 unfold print_Byte at h
 refine T.seq ?_
 refine T.rL ?_
 refine aw rfl ?_
 refine TL'.nil (tN ?_)
 refine T.seq ?_
 refine T.block ?_
 refine T.seq ?_
 refine T.rL ?_
 refine mw rfl ?_
 obtain ⟨v_76, e_77, h⟩ := bind_some h
 refine sp rfl (OpT.callPA rfl (dk rfl) Tryd.func26 rfl rfl (Args.cons rfl (Args.cons rfl Args.nil)) (CallR.nil (strings_IndexByte_T K e_77)) ?_)
 refine sp rfl (OpT.int2 rfl rfl (dk rfl) rfl rfl ?_)
 refine aw rfl ?_
 refine TL'.nil (tN ?_)
 rcases bif_some h with ⟨c_78, h⟩ | ⟨c_78, h⟩
 refine T.condT rfl c_78 ?_
 refine T.seq ?_
 refine T.rL ?_
 refine mw rfl ?_
 refine sp rfl (OpT.convInt rfl (dk rfl) ul5 ul21 rfl ?_)
 refine sp rfl (OpT.convRune rfl (dk rfl) ul21 ul9 rfl ?_)
 obtain ⟨g_79, h⟩ := ck_some h
 refine sp rfl (OpT.str_add rfl (dk rfl) rfl rfl g_79 ?_)
 refine aw rfl ?_
 refine TL'.nil (tN ?_)
 refine T.ret (inBlock_ret (thenS_ret ?_))
 exact Fin.doneK (.cons _ _ _ _ (.tmp 2 _ rfl) .nil) (.cons 0 rfl (.cons 0 rfl (.nil _))) (by cases h; exact ⟨rfl, rfl⟩)
 refine T.condF rfl c_78 ?_
 refine T.seq ?_
 refine T.rL ?_
 refine mw rfl ?_
 refine sp rfl (OpT.int2 rfl rfl (dk rfl) rfl rfl ?_)
 refine aw rfl ?_
 refine TL'.nil (tN ?_)
 rcases bif_some h with ⟨c_80, h⟩ | ⟨c_80, h⟩
 refine T.condT rfl c_80 ?_
 refine T.seq ?_
 refine T.rL ?_
 refine aw rfl ?_
 refine TL'.nil (tN ?_)
 refine T.ret (inBlock_ret (thenS_ret ?_))
 exact Fin.doneK (.cons _ _ _ _ (.tmp 2 _ rfl) .nil) (.cons 0 rfl (.cons 0 rfl (.nil _))) (by cases h; exact ⟨rfl, rfl⟩)
 refine T.condF rfl c_80 ?_
 refine T.seq ?_
 refine T.rL ?_
 refine mw rfl ?_
 refine sp rfl (OpT.int2 rfl rfl (dk rfl) rfl rfl ?_)
 refine aw rfl ?_
 refine TL'.nil (tN ?_)
 rcases bif_some h with ⟨c_81, h⟩ | ⟨c_81, h⟩
 refine T.condT rfl c_81 ?_
 refine T.seq ?_
 refine T.rL ?_
 refine aw rfl ?_
 refine TL'.nil (tN ?_)
 refine T.ret (inBlock_ret (thenS_ret ?_))
 exact Fin.doneK (.cons _ _ _ _ (.tmp 2 _ rfl) .nil) (.cons 0 rfl (.cons 0 rfl (.nil _))) (by cases h; exact ⟨rfl, rfl⟩)
 refine T.condF rfl c_81 ?_
 refine T.seq ?_
 refine T.rL ?_
 refine mw rfl ?_
 refine sp rfl (OpT.int2 rfl rfl (dk rfl) rfl rfl ?_)
 refine aw rfl ?_
 refine TL'.nil (tN ?_)
 rcases bif_some h with ⟨c_82, h⟩ | ⟨c_82, h⟩
 refine T.condT rfl c_82 ?_
 refine T.seq ?_
 refine T.rL ?_
 refine aw rfl ?_
 refine TL'.nil (tN ?_)
 refine T.ret (inBlock_ret (thenS_ret ?_))
 exact Fin.doneK (.cons _ _ _ _ (.tmp 2 _ rfl) .nil) (.cons 0 rfl (.cons 0 rfl (.nil _))) (by cases h; exact ⟨rfl, rfl⟩)
 refine T.condF rfl c_82 ?_
 refine T.seq ?_
 refine T.rL ?_
 refine mw rfl ?_
 refine sp rfl (OpT.int2 rfl rfl (dk rfl) rfl rfl ?_)
 refine mw rfl ?_
 rcases bif_some h with ⟨c_83, h⟩ | ⟨c_83, h⟩
 refine TL'.passU (.off _ _ _ _ rfl rfl rfl c_83) (dk rfl) ?_
 refine TL'.passU (.off _ _ _ _ rfl rfl rfl c_83) (dk rfl) ?_
 refine sp rfl (OpT.pickT rfl (dk rfl) rfl c_83 rfl ?_)
 refine aw rfl ?_
 refine TL'.nil (tN ?_)
 refine T.condT rfl rfl ?_
 refine T.by_turn ?_ (print_Byte_j0_T K x0 h)
 exact Turn.rp (.cons rfl (.nil _)) (.c .z (.c .z (.n _)))
 refine TL'.step (.on rfl rfl rfl c_83) (OpT.move rfl (dk rfl) rfl ?_)
 refine TL'.step (.on rfl rfl rfl c_83) (OpT.int2 rfl rfl (dk rfl) rfl rfl ?_)
 refine sp rfl (OpT.pickF rfl (dk rfl) rfl c_83 rfl ?_)
 refine aw rfl ?_
 refine TL'.nil (tN ?_)
 rcases bif_some h with ⟨c_90, h⟩ | ⟨c_90, h⟩
 refine T.condT rfl c_90 ?_
 refine T.by_turn ?_ (print_Byte_j0_T K x0 h)
 exact Turn.rp (.cons rfl (.nil _)) (.c .z (.c .z (.n _)))
 refine T.condF rfl c_90 ?_
 refine T.skip (inBlock_normal (tN ?_))
 refine T.seq ?_
 refine T.rL ?_
 refine mw rfl ?_
 refine sp rfl (OpT.convInt rfl (dk rfl) ul5 ul21 rfl ?_)
 refine sp rfl (OpT.convRune rfl (dk rfl) ul21 ul9 rfl ?_)
 refine aw rfl ?_
 refine TL'.nil (tN ?_)
 refine T.ret ?_
 exact Fin.doneK (.cons _ _ _ _ (.tmp 2 _ rfl) .nil) (.cons 0 rfl (.cons 0 rfl (.nil _))) (by cases h; exact ⟨rfl, rfl⟩)
abbrev print_Set_q (r : ByteArray) : Exit → St → Prop := retS Tryd.prog Tryd.f14 (fun y t => y = (.str r) ∧ t = [.ro 2 deBruijnD, .ro 3 deBruijn32D])
abbrev print_Set_qs111111 (r : ByteArray) : Exit → St → Prop := thenS (fun s' => T Tryd.prog 59 (Code.at [1, 1, 1, 1, 1, 1] (codeOf Tryd.f14)) s' ((print_Set_q r))) ((print_Set_q r))
abbrev print_Set_qb1x111111 (r : ByteArray) : Exit → St → Prop := inBlockS 1 ((print_Set_qs111111 r))
abbrev print_Set_qs111 (r : ByteArray) : Exit → St → Prop := thenS (fun s' => T Tryd.prog 59 (Code.at [1, 1, 1] (codeOf Tryd.f14)) s' ((print_Set_q r))) ((print_Set_q r))
abbrev print_Set_qb0x111 (r : ByteArray) : Exit → St → Prop := inBlockS 0 ((print_Set_qs111 r))
theorem print_Set_l1_T {r : ByteArray} (K : Nat) : ∀ (k : Nat), ∀ (x3_0_1 : List Arr2) (x37_1_2 : Int) (x38_1_3 : Int) (y4_1_0 : List Int) (b4_1 : Nat) (w4_1 : Value), print_Set_l1 K k x3_0_1 x37_1_2 x38_1_3 y4_1_0 = some r → TL Tryd.prog 59 (Code.at [1, 1, 1, 1, 1, 0, 1, 0, 0] (codeOf Tryd.f14)) ⟨[(4, .ptr b4_1 0), (36, .sl false 2 (x3_0_1.map (Arr2.dc .u8))), (37, .int .i64 x37_1_2), (38, .int .i64 x38_1_3)], [.box b4_1 61 [.d (.ptr b4_1 0), .d (.ex w4_1)], .arrX w4_1 5 1 0 (y4_1_0.map (cI .u8)), .ro 2 deBruijnD, .ro 3 deBruijn32D]⟩ (print_Set_qb1x111111 r) := by
  intro k
  induction k with
  | zero =>
    intro x3_0_1 x37_1_2 x38_1_3 y4_1_0 b4_1 w4_1 h
    cases (show (none : Option ByteArray) = some r from h)
  | succ k ih =>
    intro x3_0_1 x37_1_2 x38_1_3 y4_1_0 b4_1 w4_1 h
    rw [print_Set_l1] at h
    refine TL.round ?_
    refine T.seq ?_
    refine T.rL ?_
    refine sp rfl (OpT.int2 rfl rfl (dl rfl rfl) rfl rfl ?_)
    refine TL'.nil (tN ?_)
    refine T.seq ?_
    rcases bif_some h with ⟨c_490, h⟩ | ⟨c_490, h⟩
    · refine T.condT rfl c_490 ?_
      refine T.skip (tN ?_)
      refine T.seq ?_
      refine T.block ?_
      refine T.seq ?_
      refine T.rL ?_
      obtain ⟨v_491, e_492, h⟩ := bind_some h
      refine sp rfl (OpT.indexSlM (xs := x3_0_1) (f := (Arr2.dc .u8)) (v := v_491) rfl (dl rfl rfl) Tryd.underlying54 i56 rfl rfl e_492 ?_)
      refine sp rfl (OpT.loadRefAgg rfl (dl rfl rfl) Tryd.underlying56 rfl i56 rfl (Nat.le_of_ble_eq_true rfl) ?_)
      refine sp rfl (OpT.alloc' rfl (dl rfl rfl) i56 rfl (fun b_493 => ?_))
      refine sp rfl (OpT.storeAggTo (i := 0) (cells' := (Arr2.oc .u8 v_491)) rfl rfl i56 rfl rfl rfl rfl (Nat.le_of_ble_eq_true rfl) rfl ?_)
      refine TL'.nil (tN ?_)
      refine T.seq ?_
      refine T.rL ?_
      refine sp rfl (OpT.indexPtr rfl (dl rfl rfl) Tryd.underlying56 i5 rfl rfl (by decide) (by decide) ?_)
      refine sp rfl (OpT.loadBox (i := 0) rfl (dl rfl rfl) Tryd.underlying5 rfl rfl rfl (Arr2.oc_get (k := .u8) (a := v_491) (pre := []) (post := []) (by decide) (by decide)) ?_)
      obtain ⟨v_494, e_495, h⟩ := bind_some h
      refine sp rfl (OpT.callRoA rfl (dl rfl rfl) Tryd.func12 rfl rfl (Args.cons rfl Args.nil) (.cons 3 rfl (.cons 4 rfl (.nil))) (print_Byte_T K e_495) ?_)
      obtain ⟨v_496, e_497, h⟩ := bind_some h
      refine sp rfl (OpT.callG (is := [1, 2]) (ph := []) rfl (dl rfl rfl) Tryd.func31 rfl rfl (Args.cons rfl (Args.cons rfl Args.nil)) (sB_WriteString_i1_T K (bx0 := b4_1) (wx0c1 := w4_1) e_497) (.cons rfl rfl (.cons rfl rfl (.nil))) (fun _ => rfl) (fun γ_498 => ?_))
      refine nm (.c (.c (.c (.c (.c (.n)))))) ?_
      refine TL'.nil (tN ?_)
      refine T.seq ?_
      refine T.rL ?_
      refine sp rfl (OpT.indexPtr rfl (dl rfl rfl) Tryd.underlying56 i5 rfl rfl (by decide) (by decide) ?_)
      refine sp rfl (OpT.loadBox (i := 0) rfl (dl rfl rfl) Tryd.underlying5 rfl rfl rfl (Arr2.oc_get (k := .u8) (a := v_491) (pre := []) (post := []) (by decide) (by decide)) ?_)
      refine sp rfl (OpT.indexPtr rfl (dl rfl rfl) Tryd.underlying56 i5 rfl rfl (by decide) (by decide) ?_)
      refine sp rfl (OpT.loadBox (i := 0) rfl (dl rfl rfl) Tryd.underlying5 rfl rfl rfl (Arr2.oc_get (k := .u8) (a := v_491) (pre := []) (post := []) (by decide) (by decide)) ?_)
      refine sp rfl (OpT.int2 rfl rfl (dl rfl rfl) rfl rfl ?_)
      refine TL'.nil (tN ?_)
      rcases bif_some h with ⟨c_499, h⟩ | ⟨c_499, h⟩
      · refine T.condT rfl c_499 ?_
        refine T.rL ?_
        refine sp rfl (OpT.indexPtr rfl (dl rfl rfl) Tryd.underlying56 i5 rfl rfl (by decide) (by decide) ?_)
        refine sp rfl (OpT.loadBox (i := 0) rfl (dl rfl rfl) Tryd.underlying5 rfl rfl rfl (Arr2.oc_get (k := .u8) (a := v_491) (pre := []) (post := []) (by decide) (by decide)) ?_)
        obtain ⟨v_500, e_501, h⟩ := bind_some h
        refine sp rfl (OpT.callRoA rfl (dl rfl rfl) Tryd.func12 rfl rfl (Args.cons rfl Args.nil) (.cons 3 rfl (.cons 4 rfl (.nil))) (print_Byte_T K e_501) ?_)
        obtain ⟨g_502, h⟩ := ck_some h
        refine sp rfl (OpT.str_add rfl (dl rfl rfl) rfl rfl g_502 ?_)
        obtain ⟨v_503, e_504, h⟩ := bind_some h
        refine sp rfl (OpT.callG (is := [1, 2]) (ph := []) rfl (dl rfl rfl) Tryd.func31 rfl rfl (Args.cons rfl (Args.cons rfl Args.nil)) (sB_WriteString_i1_T K (bx0 := b4_1) (wx0c1 := (γ_498 0)) e_504) (.cons rfl rfl (.cons rfl rfl (.nil))) (fun _ => rfl) (fun γ_505 => ?_))
        refine nm (.c (.c (.c (.c (.c (.n)))))) ?_
        refine TL'.nil (inBlock_normal (tN ?_))
        refine T.rL ?_
        refine sp rfl (OpT.int2 rfl rfl (dl rfl rfl) rfl rfl ?_)
        refine mv rfl rfl rfl rfl rfl ?_
        refine TL'.nil (tN ?_)
        refine TL.by_turn ?_ (ih x3_0_1 x37_1_2 (IntKind.i64.wrap (x38_1_3 + (1 : Int))) v_503.2.2 b4_1 (γ_505 0) h)
        exact Turn.rp (.cons rfl (.cons rfl (.cons rfl (.cons rfl (.nil _))))) (.c (.s .z) (.c (.s .z) (.c (.s .z) (.c (.s .z) (.n _)))))
      · refine T.condF rfl c_499 ?_
        refine T.skip (inBlock_normal (tN ?_))
        refine T.rL ?_
        refine sp rfl (OpT.int2 rfl rfl (dl rfl rfl) rfl rfl ?_)
        refine mv rfl rfl rfl rfl rfl ?_
        refine TL'.nil (tN ?_)
        refine TL.by_turn ?_ (ih x3_0_1 x37_1_2 (IntKind.i64.wrap (x38_1_3 + (1 : Int))) v_496.2.2 b4_1 (γ_498 0) h)
        exact Turn.rp (.cons rfl (.cons rfl (.cons rfl (.cons rfl (.nil _))))) (.c (.s .z) (.c (.s .z) (.c (.s .z) (.c (.s .z) (.n _)))))
    · refine T.condF rfl c_490 ?_
      refine T.exit (thenS_exit (thenS_exit (inBlock_exit (tN ?_))))
      refine T.seq ?_
      refine T.rL ?_
      obtain ⟨v_506, e_507, h⟩ := bind_some h
      refine sp rfl (OpT.callG (is := [0, 1]) (ph := []) rfl (dl rfl rfl) Tryd.func31 rfl rfl (Args.cons rfl (Args.cons rfl Args.nil)) (sB_WriteString_i1_T K (bx0 := b4_1) (wx0c1 := w4_1) e_507) (.cons rfl rfl (.cons rfl rfl (.nil))) (fun _ => rfl) (fun γ_508 => ?_))
      refine nm (.c (.c (.c (.c (.n))))) ?_
      refine TL'.nil (tN ?_)
      refine T.seq ?_
      refine T.rL ?_
      obtain ⟨g_509, h⟩ := ck_some h
      obtain ⟨g_510, h⟩ := ck_some h
      refine sp rfl (OpT.callG (is := [0, 1]) (ph := []) rfl (dl rfl rfl) Tryd.func32 rfl rfl (Args.cons rfl Args.nil) (builder_String (b := b4_1) (xs := v_506.2.2) g_509 g_510) (.cons rfl rfl (.cons rfl rfl (.nil))) (fun _ => rfl) (fun γ_511 => ?_))
      refine nm (.c (.c (.c (.c (.n))))) ?_
      refine asg rfl rfl rfl rfl rfl ?_
      refine TL'.nil (tN ?_)
      refine T.ret ?_
      exact Fin.doneK (.cons _ _ _ _ (.tmp 2 _ rfl) .nil) (.cons 2 rfl (.cons 2 rfl (.nil _))) (by cases h; exact ⟨rfl, rfl⟩)
theorem print_Set_j0_T {r : ByteArray} (K : Nat) (x3_0_1 : List Arr2) (x0 : Arr4) (b1_0 : Nat) (h : print_Set_j0 K x3_0_1 x0 = some r) : T Tryd.prog 59 (Code.at [1, 1, 0, 0, 1, 1] (codeOf Tryd.f14)) ⟨[(1, .ptr b1_0 0), (3, .sl false 2 (x3_0_1.map (Arr2.dc .u8)))], [.box b1_0 25 (Arr4.oc .u64 x0), .ro 2 deBruijnD, .ro 3 deBruijn32D]⟩ (print_Set_qb0x111 r) := by
 unfold print_Set_j0 at h
 refine T.seq ?_
 refine DG.start ?_
 refine DG.step (c := ⟨some 30, .agg (Arr4.dc .u64 x0), [(1, .ptr b1_0 0)], [(0, .box b1_0 25 (Arr4.oc .u64 x0))], []⟩) (fun t hm => One.step rfl (.free rfl) (OpT.loadBoxAgg (i := 0) (l := (Arr4.dc .u64 x0)) rfl (dk rfl) ul25 rfl i25 hm.s0 hm.o0 rfl rfl rfl)) (Ct.mo rfl rfl) ?_
 refine DG.step (c := ⟨some 31, .sl true 1 ([(10 : Int)].map (cI .u8)), [], [], []⟩) (fun t hm => One.step rfl (.free rfl) (OpT.buildSlice (elems := ([(10 : Int)] : List Int).map (cI .u8)) rfl (dk rfl) ul32 i5 (by decide) rfl (all1 rfl) (parts_cons rfl rfl parts_nil) rfl rfl (lenAll rfl) (by decide) rfl)) (Ct.mo rfl rfl) ?_
 obtain ⟨v_481, e_482, h⟩ := bind_some h
 refine DG.step (c := ⟨some 32, .agg (Arr4.dc .u64 v_481), [(31, .sl true 1 ([(10 : Int)].map (cI .u8)))], [], []⟩) (fun t hm => One.step rfl (.free rfl) (OpT.callPA rfl (dk rfl) Tryd.func30 rfl rfl (Args.cons hm.s0 Args.nil) (CallR.nil (bset_Of_T K (flx0 := true) e_482)) rfl)) (Ct.mo rfl rfl) ?_
 obtain ⟨v_483, e_484, h⟩ := bind_some h
 refine DG.step (c := ⟨some 33, .agg (Arr4.dc .u64 v_483), [(32, .agg (Arr4.dc .u64 v_481))], [], []⟩) (fun t hm => One.step rfl (.free rfl) (OpT.callPA rfl (dk rfl) Tryd.func29 rfl rfl (Args.cons hm.s0 Args.nil) (CallR.nil (bset_Not_T K e_484)) rfl)) (Ct.mo rfl rfl) ?_
 refine DG.step (c := ⟨some 34, .bool (Arr4.same x0 v_483), [(30, .agg (Arr4.dc .u64 x0)), (33, .agg (Arr4.dc .u64 v_483))], [], []⟩) (fun t hm => One.step rfl (.free rfl) (OpT.intsEql (k := .u64) (xs := [x0.a0, x0.a1, x0.a2, x0.a3]) (ys := [v_483.a0, v_483.a1, v_483.a2, v_483.a3]) rfl (dk rfl) ul25 ul23 i23 Tryd.eqGuardType25 hm.s0 hm.s1 rfl rfl rfl rfl (Arr4.same_eq x0 v_483) rfl)) (Ct.mo rfl rfl) ?_
 refine DG.step (c := ⟨some 29, .bool (Arr4.same x0 v_483), [(34, .bool (Arr4.same x0 v_483))], [], []⟩) (fun t hm => One.step rfl (.free rfl) (OpT.assign rfl (dk rfl) hm.s0 rfl)) (Ct.mo rfl rfl) ?_
 refine DG.fin (s1 := ⟨[(3, .sl false 2 (x3_0_1.map (Arr2.dc .u8))), (29, .bool (Arr4.same x0 v_483))], [.box b1_0 25 (Arr4.oc .u64 x0), .ro 2 deBruijnD, .ro 3 deBruijn32D]⟩) (ms := [0, 0, 2, 6, 15, 31]) TrydMixed rfl (by kernel_rfl) (by kernel_rfl) (by kernel_rfl) (.cons rfl (.cons rfl (.nil _))) rfl (fun u hu => (tN (T.by_turn hu ?_)))
 rcases bif_some h with ⟨c_485, h⟩ | ⟨c_485, h⟩
 refine T.condT rfl c_485 ?_
 refine T.seq ?_
 refine T.rL ?_
 refine aw rfl ?_
 refine TL'.nil (tN ?_)
 refine T.ret (inBlock_ret (thenS_ret ?_))
 exact Fin.doneK (.cons _ _ _ _ (.tmp 2 _ rfl) .nil) (.cons 1 rfl (.cons 1 rfl (.nil _))) (by cases h; exact ⟨rfl, rfl⟩)
 refine T.condF rfl c_485 ?_
 refine T.skip (inBlock_normal (tN ?_))
 refine T.seq ?_
 refine T.rL ?_
 refine sp rfl (OpT.alloc' rfl (dk rfl) i61 rfl (fun b_486 => ?_))
 refine TL'.nil (tN ?_)
 refine T.seq ?_
 refine T.rL ?_
 refine TL'.turn (Turn.nilX 5 1) ?_
 obtain ⟨v_487, e_488, h⟩ := bind_some h
 refine sp rfl (OpT.callG (is := [1, 0]) (ph := []) rfl (dk rfl) Tryd.func31 rfl rfl (Args.cons rfl (Args.cons rfl Args.nil)) (sB_WriteString_T K (bx0 := b_486) (wx0c1 := (nilv 10)) e_488) (.cons rfl rfl (.cons rfl rfl (.nil))) (fun _ => rfl) (fun γ_489 => ?_))
 refine nm (.c (.c (.c (.c (.c (.n)))))) ?_
 refine TL'.nil (tN ?_)
 refine T.seq ?_
 refine T.seq ?_
 refine T.rL ?_
 refine mw rfl ?_
 refine sp rfl (OpT.lenSlM (xs := x3_0_1) (f := (Arr2.dc .u8)) rfl (dk rfl) ul54 rfl ?_)
 refine mw rfl ?_
 refine TL'.nil (tN ?_)
 refine T.block ?_
 refine T.loop ?_
 refine TL.by_turn ?_ (print_Set_l1_T K K x3_0_1 (x3_0_1.length : Int) (0 : Int) v_487.2.2 b_486 (γ_489 0) h)
 exact Turn.rp (.cons rfl (.cons rfl (.cons rfl (.cons rfl (.nil _))))) (.c (.s .z) (.c .z (.c (.s .z) (.c (.s .z) (.n _)))))
theorem print_Set_T (K : Nat) {x0 : Arr4} {r : ByteArray} (h : print_Set K x0 = some r) : CallR Tryd.prog 14 [.agg (Arr4.dc .u64 x0)] [.ro 2 deBruijnD, .ro 3 deBruijn32D] (.str r) := by
 refine CallT.intro Tryd.func14 rfl (nb rfl) ?_
 show T Tryd.prog 59 (Code.at [] (codeOf Tryd.f14)) ⟨paramSlots 0 [.agg (Arr4.dc .u64 x0)], [.ro 2 deBruijnD, .ro 3 deBruijn32D]⟩ (print_Set_q r)
 unfold print_Set at h
 refine T.seq ?_
 refine T.rL ?_
 refine sp rfl (OpT.boxAgg rfl (dk rfl) rfl (fun b_463 => ?_))
 refine aw rfl ?_
 refine TL'.nil (tN ?_)
 refine T.seq ?_
 refine T.rL ?_
 refine sp rfl (OpT.loadBoxAgg (i := 0) (l := (Arr4.dc .u64 x0)) rfl (dk rfl) ul25 rfl i25 rfl rfl rfl rfl ?_)
 obtain ⟨v_464, e_465, h⟩ := bind_some h
 refine sp rfl (OpT.callRoA rfl (dk rfl) Tryd.func28 rfl rfl (Args.cons rfl Args.nil) (.cons 1 rfl (.nil)) (bset_Spans_T K e_465) ?_)
 refine aw rfl ?_
 refine TL'.nil (tN ?_)
 refine T.seq ?_
 refine T.block ?_
 refine T.seq ?_
 refine DG.start ?_
 refine DG.mv rfl rfl rfl rfl rfl rfl ?_
 refine DG.step (c := ⟨some 11, .int .i64 (v_464.length : Int), [(10, .sl false 2 (v_464.map (Arr2.dc .u8)))], [], []⟩) (fun t hm => One.step rfl (.free rfl) (OpT.lenSlM (xs := v_464) (f := (Arr2.dc .u8)) rfl (dk rfl) ul54 hm.s0 rfl)) (Ct.mo rfl rfl) ?_
 refine DG.step (c := ⟨some 12, .bool ((v_464.length : Int) == (1 : Int)), [(11, .int .i64 (v_464.length : Int))], [], []⟩) (fun t hm => One.step rfl (.free rfl) (OpT.int2 rfl rfl (dk rfl) hm.s0 rfl rfl)) (Ct.mo rfl rfl) ?_
 refine DG.mv rfl rfl rfl rfl rfl rfl ?_
 rcases bif_some h with ⟨c_470, h⟩ | ⟨c_470, h⟩
 refine DG.step (c := ⟨some 14, .sl false 2 (v_464.map (Arr2.dc .u8)), [(3, .sl false 2 (v_464.map (Arr2.dc .u8))), (13, .bool ((v_464.length : Int) == (1 : Int)))], [], []⟩) (fun t hm => One.step rfl (.on rfl rfl hm.s1 c_470) (OpT.move rfl (dk rfl) hm.s0 rfl)) (Ct.mo rfl rfl) ?_
 obtain ⟨v_471, e_472, h⟩ := bind_some h
 refine DG.step (c := ⟨some 15, .ref [.int .u8 v_471.a0, .int .u8 v_471.a1], [(14, .sl false 2 (v_464.map (Arr2.dc .u8))), (13, .bool ((v_464.length : Int) == (1 : Int)))], [], []⟩) (fun t hm => One.step rfl (.on rfl rfl hm.s1 c_470) (OpT.indexSlM (xs := v_464) (f := (Arr2.dc .u8)) (v := v_471) rfl (dk rfl) ul54 i56 hm.s0 rfl e_472 rfl)) (Ct.mo rfl rfl) ?_
 refine DG.step (c := ⟨some 16, .ref [.int .u8 v_471.a0, .int .u8 v_471.a1], [(15, .ref [.int .u8 v_471.a0, .int .u8 v_471.a1]), (13, .bool ((v_464.length : Int) == (1 : Int)))], [], []⟩) (fun t hm => One.step rfl (.on rfl rfl hm.s1 c_470) (OpT.indexRef rfl (dk rfl) ul56 i5 hm.s0 rfl (by decide) (by decide) rfl)) (Ct.mo rfl rfl) ?_
 refine DG.step (c := ⟨some 17, .int .u8 v_471.a0, [(16, .ref [.int .u8 v_471.a0, .int .u8 v_471.a1]), (13, .bool ((v_464.length : Int) == (1 : Int)))], [], []⟩) (fun t hm => One.step rfl (.on rfl rfl hm.s1 c_470) (OpT.loadRef rfl (dk rfl) ul5 rfl hm.s0 rfl rfl)) (Ct.mo rfl rfl) ?_
 refine DG.step (c := ⟨some 18, .sl false 2 (v_464.map (Arr2.dc .u8)), [(3, .sl false 2 (v_464.map (Arr2.dc .u8))), (13, .bool ((v_464.length : Int) == (1 : Int)))], [], []⟩) (fun t hm => One.step rfl (.on rfl rfl hm.s1 c_470) (OpT.move rfl (dk rfl) hm.s0 rfl)) (Ct.mo rfl rfl) ?_
 refine DG.step (c := ⟨some 19, .ref [.int .u8 v_471.a0, .int .u8 v_471.a1], [(18, .sl false 2 (v_464.map (Arr2.dc .u8))), (13, .bool ((v_464.length : Int) == (1 : Int)))], [], []⟩) (fun t hm => One.step rfl (.on rfl rfl hm.s1 c_470) (OpT.indexSlM (xs := v_464) (f := (Arr2.dc .u8)) (v := v_471) rfl (dk rfl) ul54 i56 hm.s0 rfl e_472 rfl)) (Ct.mo rfl rfl) ?_
 refine DG.step (c := ⟨some 20, .ref [.int .u8 v_471.a1], [(19, .ref [.int .u8 v_471.a0, .int .u8 v_471.a1]), (13, .bool ((v_464.length : Int) == (1 : Int)))], [], []⟩) (fun t hm => One.step rfl (.on rfl rfl hm.s1 c_470) (OpT.indexRef rfl (dk rfl) ul56 i5 hm.s0 rfl (by decide) (by decide) rfl)) (Ct.mo rfl rfl) ?_
 refine DG.step (c := ⟨some 21, .int .u8 v_471.a1, [(20, .ref [.int .u8 v_471.a1]), (13, .bool ((v_464.length : Int) == (1 : Int)))], [], []⟩) (fun t hm => One.step rfl (.on rfl rfl hm.s1 c_470) (OpT.loadRef rfl (dk rfl) ul5 rfl hm.s0 rfl rfl)) (Ct.mo rfl rfl) ?_
 refine DG.step (c := ⟨some 22, .bool (v_471.a0 == v_471.a1), [(17, .int .u8 v_471.a0), (21, .int .u8 v_471.a1), (13, .bool ((v_464.length : Int) == (1 : Int)))], [], []⟩) (fun t hm => One.step rfl (.on rfl rfl hm.s2 c_470) (OpT.int2 rfl rfl (dk rfl) hm.s0 hm.s1 rfl)) (Ct.mo rfl rfl) ?_
 refine DG.step (c := ⟨some 23, .bool (v_471.a0 == v_471.a1), [(13, .bool ((v_464.length : Int) == (1 : Int))), (22, .bool (v_471.a0 == v_471.a1))], [], []⟩) (fun t hm => One.step rfl (.free rfl) (OpT.pickT rfl (dk rfl) hm.s0 c_470 hm.s1 rfl)) (Ct.mo rfl rfl) ?_
 refine DG.step (c := ⟨some 9, .bool (v_471.a0 == v_471.a1), [(23, .bool (v_471.a0 == v_471.a1))], [], []⟩) (fun t hm => One.step rfl (.free rfl) (OpT.assign rfl (dk rfl) hm.s0 rfl)) (Ct.mo rfl rfl) ?_
 refine DG.fin (s1 := ⟨[(1, .ptr b_463 0), (3, .sl false 2 (v_464.map (Arr2.dc .u8))), (9, .bool (v_471.a0 == v_471.a1))], [.box b_463 25 (Arr4.oc .u64 x0), .ro 2 deBruijnD, .ro 3 deBruijn32D]⟩) (ms := [0, 1, 3, 7, 15, 31, 63, 127, 15, 271, 783, 1807, 4095, 8191, 16383]) TrydMixed rfl (by kernel_rfl) (by kernel_rfl) (by kernel_rfl) (.cons rfl (.cons rfl (.cons rfl (.nil _)))) rfl (fun u hu => (tN (T.by_turn hu ?_)))
 rcases bif_some h with ⟨c_473, h⟩ | ⟨c_473, h⟩
 refine T.condT rfl c_473 ?_
 refine T.seq ?_
 refine T.rL ?_
 refine mw rfl ?_
 refine sp rfl (OpT.indexSlM (xs := v_464) (f := (Arr2.dc .u8)) (v := v_471) rfl (dk rfl) ul54 i56 rfl rfl e_472 ?_)
 refine sp rfl (OpT.indexRef rfl (dk rfl) ul56 i5 rfl rfl (by decide) (by decide) ?_)
 refine sp rfl (OpT.loadRef rfl (dk rfl) ul5 rfl rfl rfl ?_)
 obtain ⟨v_474, e_475, h⟩ := bind_some h
 refine sp rfl (OpT.callRoA rfl (dk rfl) Tryd.func12 rfl rfl (Args.cons rfl Args.nil) (.cons 1 rfl (.cons 2 rfl (.nil))) (print_Byte_T K e_475) ?_)
 refine aw rfl ?_
 refine TL'.nil (tN ?_)
 refine T.ret (inBlock_ret (thenS_ret ?_))
 exact Fin.doneK (.cons _ _ _ _ (.tmp 2 _ rfl) .nil) (.cons 1 rfl (.cons 1 rfl (.nil _))) (by cases h; exact ⟨rfl, rfl⟩)
 refine T.condF rfl c_473 ?_
 refine T.by_turn ?_ (print_Set_j0_T K v_464 x0 b_463 h)
 exact Turn.rp (.cons rfl (.cons rfl (.nil _))) (.c .z (.c .z (.c .z (.n _))))
 refine DG.off c_470 rfl rfl rfl rfl rfl rfl ?_
 refine DG.off c_470 rfl rfl rfl rfl rfl rfl ?_
 refine DG.off c_470 rfl rfl rfl rfl rfl rfl ?_
 refine DG.off c_470 rfl rfl rfl rfl rfl rfl ?_
 refine DG.off c_470 rfl rfl rfl rfl rfl rfl ?_
 refine DG.off c_470 rfl rfl rfl rfl rfl rfl ?_
 refine DG.off c_470 rfl rfl rfl rfl rfl rfl ?_
 refine DG.off c_470 rfl rfl rfl rfl rfl rfl ?_
 refine DG.off c_470 rfl rfl rfl rfl rfl rfl ?_
 refine DG.step (c := ⟨some 23, .bool false, [(13, .bool ((v_464.length : Int) == (1 : Int)))], [], []⟩) (fun t hm => One.step rfl (.free rfl) (OpT.pickF rfl (dk rfl) hm.s0 c_470 rfl rfl)) (Ct.mo rfl rfl) ?_
 refine DG.step (c := ⟨some 9, .bool false, [(23, .bool false)], [], []⟩) (fun t hm => One.step rfl (.free rfl) (OpT.assign rfl (dk rfl) hm.s0 rfl)) (Ct.mo rfl rfl) ?_
 refine DG.fin (s1 := ⟨[(1, .ptr b_463 0), (3, .sl false 2 (v_464.map (Arr2.dc .u8))), (9, .bool false)], [.box b_463 25 (Arr4.oc .u64 x0), .ro 2 deBruijnD, .ro 3 deBruijn32D]⟩) (ms := [0, 1, 3, 7, 15, 31, 63, 127, 15, 271, 783, 1807, 4095, 8191, 16383]) TrydMixed rfl (by kernel_rfl) (by kernel_rfl) (by kernel_rfl) (.cons rfl (.cons rfl (.cons rfl (.nil _)))) rfl (fun u hu => (tN (T.by_turn hu ?_)))
 refine T.condF rfl rfl ?_
 refine T.by_turn ?_ (print_Set_j0_T K v_464 x0 b_463 h)
 exact Turn.rp (.cons rfl (.cons rfl (.nil _))) (.c .z (.c .z (.c .z (.n _))))
abbrev pW_q (r : Bool) : Exit → St → Prop := retS Tryd.prog Tryd.f20 (fun y t => y = (.bool r) ∧ t = [])
abbrev pW_qs11 (r : Bool) : Exit → St → Prop := thenS (fun s' => T Tryd.prog 13 (Code.at [1, 1] (codeOf Tryd.f20)) s' ((pW_q r))) ((pW_q r))
abbrev pW_qb0x11 (r : Bool) : Exit → St → Prop := inBlockS 0 ((pW_qs11 r))
theorem pW_j0_T {r : Bool} (K : Nat) (x0 : Int) (x8_0_1 : Bool) (h : pW_j0 K x0 x8_0_1 = some r) : T Tryd.prog 13 (Code.at [1, 0, 1, 0, 1, 1, 1] (codeOf Tryd.f20)) ⟨[(0, .int .u8 x0), (8, .bool x8_0_1)], []⟩ (pW_qb0x11 r) := by
 unfold pW_j0 at h
 rcases bif_some h with ⟨c_18, h⟩ | ⟨c_18, h⟩
 refine T.condT rfl c_18 ?_
 refine T.seq ?_
 refine T.rL ?_
 refine mw rfl ?_
 refine sp rfl (OpT.int2 rfl rfl (dk rfl) rfl rfl ?_)
 refine aw rfl ?_
 refine TL'.nil (tN ?_)
 refine T.ret (inBlock_ret (thenS_ret ?_))
 exact Fin.done (.cons _ _ _ _ (.tmp 4 _ rfl) .nil) (by cases h; exact ⟨rfl, rfl⟩)
 refine T.condF rfl c_18 ?_
 refine T.skip (inBlock_normal (tN ?_))
 refine T.seq ?_
 refine T.rL ?_
 refine aw rfl ?_
 refine TL'.nil (tN ?_)
 refine T.ret ?_
 exact Fin.done (.cons _ _ _ _ (.tmp 4 _ rfl) .nil) (by cases h; exact ⟨rfl, rfl⟩)
theorem pW_T (K : Nat) {x0 : Int} {x1 : Int} {r : Bool} (h : pW K x0 x1 = some r) : CallR Tryd.prog 20 [.int .u8 x0, .int .u8 x1] [] (.bool r) := by
 refine CallT.intro Tryd.func20 rfl (nb rfl) ?_
 show T Tryd.prog 13 (Code.at [] (codeOf Tryd.f20)) ⟨paramSlots 0 [.int .u8 x0, .int .u8 x1], []⟩ (pW_q r)
 unfold pW at h
 refine T.seq ?_
 refine T.rL ?_
 refine aw rfl ?_
 refine TL'.nil (tN ?_)
 refine T.seq ?_
 refine T.seq ?_
 refine T.rL ?_
 refine mw rfl ?_
 refine TL'.nil (tN ?_)
 refine T.block ?_
 refine T.seq ?_
 refine T.rL ?_
 refine sp rfl (OpT.int2 rfl rfl (dk rfl) rfl rfl ?_)
 refine aw rfl ?_
 refine TL'.nil (tN ?_)
 rcases bif_some h with ⟨c_16, h⟩ | ⟨c_16, h⟩
 refine T.condT rfl c_16 ?_
 refine T.seq ?_
 refine T.rL ?_
 refine aw rfl ?_
 refine TL'.nil (tN ?_)
 refine T.ret (inBlock_ret (thenS_ret ?_))
 exact Fin.done (.cons _ _ _ _ (.tmp 4 _ rfl) .nil) (by cases h; exact ⟨rfl, rfl⟩)
 refine T.condF rfl c_16 ?_
 refine T.seq ?_
 refine T.seq ?_
 refine T.rL ?_
 refine sp rfl (OpT.int2 rfl rfl (dk rfl) rfl rfl ?_)
 refine aw rfl ?_
 refine TL'.nil (tN ?_)
 rcases bif_some h with ⟨c_17, h⟩ | ⟨c_17, h⟩
 refine T.condT rfl c_17 ?_
 refine T.skip (tN ?_)
 refine T.by_turn ?_ (pW_j0_T K x0 (x1 == (1 : Int)) h)
 exact Turn.rp (.cons rfl (.cons rfl (.nil _))) (.n _)
 refine T.condF rfl c_17 ?_
 refine T.rL ?_
 refine sp rfl (OpT.int2 rfl rfl (dk rfl) rfl rfl ?_)
 refine aw rfl ?_
 refine TL'.nil (tN ?_)
 refine T.by_turn ?_ (pW_j0_T K x0 (x1 == (3 : Int)) h)
 exact Turn.rp (.cons rfl (.cons rfl (.nil _))) (.n _)
theorem strconv_Itoa_T (K : Nat) {x0 : Int} {r : ByteArray} (h : strconv_Itoa K x0 = some r) : CallR Tryd.prog 42 [.int .i64 x0] [.tab 1 pow10V] (.str r) := by
 unfold strconv_Itoa at h
 split at h
 next hc => cases h; exact itoa_call Tryd.laysM171 (by kernel_rfl) hc.1 hc.2
 cases h
abbrev print_times_q (r : ByteArray) : Exit → St → Prop := retS Tryd.prog Tryd.f21 (fun y t => y = (.str r) ∧ t = [.tab 1 pow10V])
theorem print_times_T (K : Nat) {x0 : Int} {x1 : Int} {r : ByteArray} (h : print_times K x0 x1 = some r) : CallR Tryd.prog 21 [.int .i64 x0, .int .i64 x1] [.tab 1 pow10V] (.str r) := by
 refine CallT.intro Tryd.func21 rfl (nb rfl) ?_
 show T Tryd.prog 42 (Code.at [] (codeOf Tryd.f21)) ⟨paramSlots 0 [.int .i64 x0, .int .i64 x1], [.tab 1 pow10V]⟩ (print_times_q r)
 unfold print_times at h
 refine T.seq ?_
 refine T.rL ?_
 refine aw rfl ?_
 refine TL'.nil (tN ?_)
 refine T.seq ?_
 refine T.seq ?_
 refine T.rL ?_
 refine mw rfl ?_
 refine mw rfl ?_
 refine sp rfl (OpT.build (l := (Arr2.dc .i64 (Arr2.mk x0 x1))) rfl (dk rfl) (built_arr ul80 i80 i3) (all1 rfl) rfl rfl ?_)
 refine TL'.nil (tN ?_)
 refine T.block ?_
 refine T.seq ?_
 refine T.rL ?_
 refine sp rfl (OpT.build (l := (Arr2.dc .i64 (Arr2.mk (0 : Int) (-1 : Int)))) rfl (dk rfl) (built_arr ul80 i80 i3) (all1 rfl) rfl rfl ?_)
 refine sp rfl (OpT.intsEql (k := .i64) (xs := [(Arr2.mk x0 x1).a0, (Arr2.mk x0 x1).a1]) (ys := [(Arr2.mk (0 : Int) (-1 : Int)).a0, (Arr2.mk (0 : Int) (-1 : Int)).a1]) rfl (dk rfl) ul80 ul3 i3 Tryd.eqGuardType80 rfl rfl rfl rfl rfl rfl (Arr2.same_eq (Arr2.mk x0 x1) (Arr2.mk (0 : Int) (-1 : Int))) ?_)
 refine aw rfl ?_
 refine TL'.nil (tN ?_)
 rcases bif_some h with ⟨c_85, h⟩ | ⟨c_85, h⟩
 refine T.condT rfl c_85 ?_
 refine T.seq ?_
 refine T.rL ?_
 refine aw rfl ?_
 refine TL'.nil (tN ?_)
 refine T.ret (inBlock_ret (thenS_ret ?_))
 exact Fin.doneK (.cons _ _ _ _ (.tmp 4 _ rfl) .nil) (.cons 0 rfl (.nil _)) (by cases h; exact ⟨rfl, rfl⟩)
 refine T.condF rfl c_85 ?_
 refine T.seq ?_
 refine T.rL ?_
 refine sp rfl (OpT.build (l := (Arr2.dc .i64 (Arr2.mk (1 : Int) (-1 : Int)))) rfl (dk rfl) (built_arr ul80 i80 i3) (all1 rfl) rfl rfl ?_)
 refine sp rfl (OpT.intsEql (k := .i64) (xs := [(Arr2.mk x0 x1).a0, (Arr2.mk x0 x1).a1]) (ys := [(Arr2.mk (1 : Int) (-1 : Int)).a0, (Arr2.mk (1 : Int) (-1 : Int)).a1]) rfl (dk rfl) ul80 ul3 i3 Tryd.eqGuardType80 rfl rfl rfl rfl rfl rfl (Arr2.same_eq (Arr2.mk x0 x1) (Arr2.mk (1 : Int) (-1 : Int))) ?_)
 refine aw rfl ?_
 refine TL'.nil (tN ?_)
 rcases bif_some h with ⟨c_86, h⟩ | ⟨c_86, h⟩
 refine T.condT rfl c_86 ?_
 refine T.seq ?_
 refine T.rL ?_
 refine aw rfl ?_
 refine TL'.nil (tN ?_)
 refine T.ret (inBlock_ret (thenS_ret ?_))
 exact Fin.doneK (.cons _ _ _ _ (.tmp 4 _ rfl) .nil) (.cons 0 rfl (.nil _)) (by cases h; exact ⟨rfl, rfl⟩)
 refine T.condF rfl c_86 ?_
 refine T.seq ?_
 refine T.rL ?_
 refine sp rfl (OpT.build (l := (Arr2.dc .i64 (Arr2.mk (0 : Int) (1 : Int)))) rfl (dk rfl) (built_arr ul80 i80 i3) (all1 rfl) rfl rfl ?_)
 refine sp rfl (OpT.intsEql (k := .i64) (xs := [(Arr2.mk x0 x1).a0, (Arr2.mk x0 x1).a1]) (ys := [(Arr2.mk (0 : Int) (1 : Int)).a0, (Arr2.mk (0 : Int) (1 : Int)).a1]) rfl (dk rfl) ul80 ul3 i3 Tryd.eqGuardType80 rfl rfl rfl rfl rfl rfl (Arr2.same_eq (Arr2.mk x0 x1) (Arr2.mk (0 : Int) (1 : Int))) ?_)
 refine aw rfl ?_
 refine TL'.nil (tN ?_)
 rcases bif_some h with ⟨c_87, h⟩ | ⟨c_87, h⟩
 refine T.condT rfl c_87 ?_
 refine T.seq ?_
 refine T.rL ?_
 refine aw rfl ?_
 refine TL'.nil (tN ?_)
 refine T.ret (inBlock_ret (thenS_ret ?_))
 exact Fin.doneK (.cons _ _ _ _ (.tmp 4 _ rfl) .nil) (.cons 0 rfl (.nil _)) (by cases h; exact ⟨rfl, rfl⟩)
 refine T.condF rfl c_87 ?_
 refine T.seq ?_
 refine T.rL ?_
 refine mw rfl ?_
 refine mw rfl ?_
 refine sp rfl (OpT.build (l := (Arr2.dc .i64 (Arr2.mk x0 x0))) rfl (dk rfl) (built_arr ul80 i80 i3) (all1 rfl) rfl rfl ?_)
 refine sp rfl (OpT.intsEql (k := .i64) (xs := [(Arr2.mk x0 x1).a0, (Arr2.mk x0 x1).a1]) (ys := [(Arr2.mk x0 x0).a0, (Arr2.mk x0 x0).a1]) rfl (dk rfl) ul80 ul3 i3 Tryd.eqGuardType80 rfl rfl rfl rfl rfl rfl (Arr2.same_eq (Arr2.mk x0 x1) (Arr2.mk x0 x0)) ?_)
 refine aw rfl ?_
 refine TL'.nil (tN ?_)
 rcases bif_some h with ⟨c_88, h⟩ | ⟨c_88, h⟩
 refine T.condT rfl c_88 ?_
 refine T.seq ?_
 refine T.rL ?_
 refine mw rfl ?_
 obtain ⟨v_89, e_90, h⟩ := bind_some h
 refine sp rfl (OpT.callRoA rfl (dk rfl) Tryd.func42 rfl rfl (Args.cons rfl Args.nil) (.tab 0 rfl (.nil)) (strconv_Itoa_T K e_90) ?_)
 obtain ⟨g_91, h⟩ := ck_some h
 refine sp rfl (OpT.str_add rfl (dk rfl) rfl rfl g_91 ?_)
 obtain ⟨g_92, h⟩ := ck_some h
 refine sp rfl (OpT.str_add rfl (dk rfl) rfl rfl g_92 ?_)
 refine aw rfl ?_
 refine TL'.nil (tN ?_)
 refine T.ret (inBlock_ret (thenS_ret ?_))
 exact Fin.doneK (.cons _ _ _ _ (.tmp 4 _ rfl) .nil) (.cons 0 rfl (.nil _)) (by cases h; exact ⟨rfl, rfl⟩)
 refine T.condF rfl c_88 ?_
 refine T.seq ?_
 refine T.rL ?_
 refine mw rfl ?_
 refine sp rfl (OpT.build (l := (Arr2.dc .i64 (Arr2.mk x0 (-1 : Int)))) rfl (dk rfl) (built_arr ul80 i80 i3) (all1 rfl) rfl rfl ?_)
 refine sp rfl (OpT.intsEql (k := .i64) (xs := [(Arr2.mk x0 x1).a0, (Arr2.mk x0 x1).a1]) (ys := [(Arr2.mk x0 (-1 : Int)).a0, (Arr2.mk x0 (-1 : Int)).a1]) rfl (dk rfl) ul80 ul3 i3 Tryd.eqGuardType80 rfl rfl rfl rfl rfl rfl (Arr2.same_eq (Arr2.mk x0 x1) (Arr2.mk x0 (-1 : Int))) ?_)
 refine aw rfl ?_
 refine TL'.nil (tN ?_)
 rcases bif_some h with ⟨c_93, h⟩ | ⟨c_93, h⟩
 refine T.condT rfl c_93 ?_
 refine T.seq ?_
 refine T.rL ?_
 refine mw rfl ?_
 obtain ⟨v_94, e_95, h⟩ := bind_some h
 refine sp rfl (OpT.callRoA rfl (dk rfl) Tryd.func42 rfl rfl (Args.cons rfl Args.nil) (.tab 0 rfl (.nil)) (strconv_Itoa_T K e_95) ?_)
 obtain ⟨g_96, h⟩ := ck_some h
 refine sp rfl (OpT.str_add rfl (dk rfl) rfl rfl g_96 ?_)
 obtain ⟨g_97, h⟩ := ck_some h
 refine sp rfl (OpT.str_add rfl (dk rfl) rfl rfl g_97 ?_)
 refine aw rfl ?_
 refine TL'.nil (tN ?_)
 refine T.ret (inBlock_ret (thenS_ret ?_))
 exact Fin.doneK (.cons _ _ _ _ (.tmp 4 _ rfl) .nil) (.cons 0 rfl (.nil _)) (by cases h; exact ⟨rfl, rfl⟩)
 refine T.condF rfl c_93 ?_
 refine T.skip (inBlock_normal (tN ?_))
 refine T.seq ?_
 refine T.rL ?_
 refine mw rfl ?_
 obtain ⟨v_98, e_99, h⟩ := bind_some h
 refine sp rfl (OpT.callRoA rfl (dk rfl) Tryd.func42 rfl rfl (Args.cons rfl Args.nil) (.tab 0 rfl (.nil)) (strconv_Itoa_T K e_99) ?_)
 obtain ⟨g_100, h⟩ := ck_some h
 refine sp rfl (OpT.str_add rfl (dk rfl) rfl rfl g_100 ?_)
 obtain ⟨g_101, h⟩ := ck_some h
 refine sp rfl (OpT.str_add rfl (dk rfl) rfl rfl g_101 ?_)
 refine mw rfl ?_
 obtain ⟨v_102, e_103, h⟩ := bind_some h
 refine sp rfl (OpT.callRoA rfl (dk rfl) Tryd.func42 rfl rfl (Args.cons rfl Args.nil) (.tab 0 rfl (.nil)) (strconv_Itoa_T K e_103) ?_)
 obtain ⟨g_104, h⟩ := ck_some h
 refine sp rfl (OpT.str_add rfl (dk rfl) rfl rfl g_104 ?_)
 obtain ⟨g_105, h⟩ := ck_some h
 refine sp rfl (OpT.str_add rfl (dk rfl) rfl rfl g_105 ?_)
 refine aw rfl ?_
 refine TL'.nil (tN ?_)
 refine T.ret ?_
 exact Fin.doneK (.cons _ _ _ _ (.tmp 4 _ rfl) .nil) (.cons 0 rfl (.nil _)) (by cases h; exact ⟨rfl, rfl⟩)
end Go.Rv

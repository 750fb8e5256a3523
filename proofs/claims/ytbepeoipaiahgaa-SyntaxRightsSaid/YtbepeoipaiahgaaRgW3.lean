/- Each function computes what its plain text says: printed by a program of ours. -/
import Derived.Test.YtbepeoipaiahgaaRgW2
namespace Go.Rv
open Go.Proofs
set_option maxRecDepth 100000
set_option maxHeartbeats 4000000
set_option linter.unusedVariables false

abbrev syntax_shaped_q (r : Bool) : Exit → St → Prop := retS Try.prog Try.f24 (fun y t => y = (.bool r) ∧ t = [])

abbrev syntax_shaped_qs1111 (r : Bool) : Exit → St → Prop := thenS (fun s' => T Try.prog 104 (Code.at [1, 1, 1, 1] (codeOf Try.f24)) s' ((syntax_shaped_q r))) ((syntax_shaped_q r))

abbrev syntax_shaped_qb0x1111 (r : Bool) : Exit → St → Prop := inBlockS 0 ((syntax_shaped_qs1111 r))

abbrev syntax_shaped_qs111010111011 (r : Bool) : Exit → St → Prop := thenS (fun s' => T Try.prog 104 (Code.at [1, 1, 1, 0, 1, 0, 1, 1, 1, 0, 1, 1] (codeOf Try.f24)) s' ((syntax_shaped_qb0x1111 r))) ((syntax_shaped_qb0x1111 r))

theorem syntax_shaped_j0_T {r : Bool} (K : Nat) (x4_0_12 : Int) (x0 : api_Node) (y3_0_7 : Arr4) (y3_0_9 : Int) (y3_0_10 : Int) (y3_0_11 : ByteArray) (b1_0 : Nat) (b3_0 : Nat) (h : syntax_shaped_j0 K x4_0_12 x0 y3_0_7 y3_0_9 y3_0_10 y3_0_11 = some r) : T Try.prog 104 (Code.at [1, 1, 1, 1] (codeOf Try.f24)) ⟨[(1, .ptr b1_0 0), (3, .ptr b3_0 0), (4, .int .i64 x4_0_12)], [.box b1_0 36 [.d (.int .u8 x0.Op), .d (.int .u64 x0.S.a0), .d (.int .u64 x0.S.a1), .d (.int .u64 x0.S.a2), .d (.int .u64 x0.S.a3), .d (.sl false 1 (x0.L.map (cI .i64))), .d (.int .i64 x0.Lo), .d (.int .i64 x0.Hi), .d (.str x0.Name)], .box b3_0 36 [.d (.int .u8 x0.Op), .d (.int .u64 y3_0_7.a0), .d (.int .u64 y3_0_7.a1), .d (.int .u64 y3_0_7.a2), .d (.int .u64 y3_0_7.a3), .d (.sl false 1 (([] : List Int).map (cI .i64))), .d (.int .i64 y3_0_9), .d (.int .i64 y3_0_10), .d (.str y3_0_11)]]⟩ (syntax_shaped_q r) := by
  unfold syntax_shaped_j0 at h
  refine T.seq ?_
  refine T.regionL ?_
  refine mv rfl rfl rfl rfl rfl ?_
  refine sp rfl (OpT.int2 rfl rfl (dl rfl rfl) rfl rfl ?_)
  refine mv rfl rfl rfl rfl rfl ?_
  rcases bif_some h with ⟨c_120, h⟩ | ⟨c_120, h⟩
  · refine TL'.step (.on rfl rfl rfl c_120) (OpT.fieldPtr rfl (dl rfl rfl) Try.underlying36 rfl i33 (by decide) rfl ?_)
    refine TL'.step (.on rfl rfl rfl c_120) (OpT.loadBoxAgg (i := 0) (l := (Arr4.dc .u64 x0.S)) rfl (dl rfl rfl) Try.underlying33 rfl i33 rfl rfl rfl rfl ?_)
    refine TL'.step (.on rfl rfl rfl c_120) (OpT.fieldPtr rfl (dl rfl rfl) Try.underlying36 rfl i33 (by decide) rfl ?_)
    refine TL'.step (.on rfl rfl rfl c_120) (OpT.loadBoxAgg (i := 1) (l := (Arr4.dc .u64 y3_0_7)) rfl (dl rfl rfl) Try.underlying33 rfl i33 rfl rfl rfl rfl ?_)
    refine TL'.step (.on rfl rfl rfl c_120) (OpT.intsEql (k := .u64) (xs := [x0.S.a0, x0.S.a1, x0.S.a2, x0.S.a3]) (ys := [y3_0_7.a0, y3_0_7.a1, y3_0_7.a2, y3_0_7.a3]) rfl (dl rfl rfl) Try.underlying33 Try.underlying31 i31 Try.eqGuardType33 rfl rfl rfl rfl rfl rfl (Arr4.same_eq x0.S y3_0_7) ?_)
    refine sp rfl (OpT.pickT rfl (dl rfl rfl) rfl c_120 rfl ?_)
    refine mv rfl rfl rfl rfl rfl ?_
    rcases bif_some h with ⟨c_121, h⟩ | ⟨c_121, h⟩
    · refine TL'.step (.on rfl rfl rfl c_121) (OpT.fieldPtr rfl (dl rfl rfl) Try.underlying36 rfl i3 (by decide) rfl ?_)
      refine TL'.step (.on rfl rfl rfl c_121) (OpT.loadBox (i := 0) rfl (dl rfl rfl) Try.underlying3 rfl rfl rfl rfl ?_)
      refine TL'.step (.on rfl rfl rfl c_121) (OpT.fieldPtr rfl (dl rfl rfl) Try.underlying36 rfl i3 (by decide) rfl ?_)
      refine TL'.step (.on rfl rfl rfl c_121) (OpT.loadBox (i := 1) rfl (dl rfl rfl) Try.underlying3 rfl rfl rfl rfl ?_)
      refine TL'.step (.on rfl rfl rfl c_121) (OpT.int2 rfl rfl (dl rfl rfl) rfl rfl ?_)
      refine sp rfl (OpT.pickT rfl (dl rfl rfl) rfl c_121 rfl ?_)
      refine mv rfl rfl rfl rfl rfl ?_
      rcases bif_some h with ⟨c_122, h⟩ | ⟨c_122, h⟩
      · refine TL'.step (.on rfl rfl rfl c_122) (OpT.fieldPtr rfl (dl rfl rfl) Try.underlying36 rfl i3 (by decide) rfl ?_)
        refine TL'.step (.on rfl rfl rfl c_122) (OpT.loadBox (i := 0) rfl (dl rfl rfl) Try.underlying3 rfl rfl rfl rfl ?_)
        refine TL'.step (.on rfl rfl rfl c_122) (OpT.fieldPtr rfl (dl rfl rfl) Try.underlying36 rfl i3 (by decide) rfl ?_)
        refine TL'.step (.on rfl rfl rfl c_122) (OpT.loadBox (i := 1) rfl (dl rfl rfl) Try.underlying3 rfl rfl rfl rfl ?_)
        refine TL'.step (.on rfl rfl rfl c_122) (OpT.int2 rfl rfl (dl rfl rfl) rfl rfl ?_)
        refine sp rfl (OpT.pickT rfl (dl rfl rfl) rfl c_122 rfl ?_)
        refine mv rfl rfl rfl rfl rfl ?_
        rcases bif_some h with ⟨c_123, h⟩ | ⟨c_123, h⟩
        · refine TL'.step (.on rfl rfl rfl c_123) (OpT.fieldPtr rfl (dl rfl rfl) Try.underlying36 rfl i9 (by decide) rfl ?_)
          refine TL'.step (.on rfl rfl rfl c_123) (OpT.loadBox (i := 0) rfl (dl rfl rfl) Try.underlying9 rfl rfl rfl rfl ?_)
          refine TL'.step (.on rfl rfl rfl c_123) (OpT.fieldPtr rfl (dl rfl rfl) Try.underlying36 rfl i9 (by decide) rfl ?_)
          refine TL'.step (.on rfl rfl rfl c_123) (OpT.loadBox (i := 1) rfl (dl rfl rfl) Try.underlying9 rfl rfl rfl rfl ?_)
          refine TL'.step (.on rfl rfl rfl c_123) (OpT.str_eql rfl (dl rfl rfl) rfl rfl ?_)
          refine sp rfl (OpT.pickT rfl (dl rfl rfl) rfl c_123 rfl ?_)
          refine asg rfl rfl rfl rfl rfl ?_
          refine TL'.nil (thenS_normal ?_)
          refine T.ret ?_
          exact Fin.done (.cons _ _ _ _ (.tmp 2 _ rfl) .nil) (by cases h; exact ⟨rfl, rfl⟩)
        · refine TL'.passU (.off _ _ _ _ rfl rfl rfl c_123) (dl rfl rfl) ?_
          refine TL'.passU (.off _ _ _ _ rfl rfl rfl c_123) (dl rfl rfl) ?_
          refine TL'.passU (.off _ _ _ _ rfl rfl rfl c_123) (dl rfl rfl) ?_
          refine TL'.passU (.off _ _ _ _ rfl rfl rfl c_123) (dl rfl rfl) ?_
          refine TL'.passU (.off _ _ _ _ rfl rfl rfl c_123) (dl rfl rfl) ?_
          refine sp rfl (OpT.pickF rfl (dl rfl rfl) rfl c_123 rfl ?_)
          refine asg rfl rfl rfl rfl rfl ?_
          refine TL'.nil (thenS_normal ?_)
          refine T.ret ?_
          exact Fin.done (.cons _ _ _ _ (.tmp 2 _ rfl) .nil) (by cases h; exact ⟨rfl, rfl⟩)
      · refine TL'.passU (.off _ _ _ _ rfl rfl rfl c_122) (dl rfl rfl) ?_
        refine TL'.passU (.off _ _ _ _ rfl rfl rfl c_122) (dl rfl rfl) ?_
        refine TL'.passU (.off _ _ _ _ rfl rfl rfl c_122) (dl rfl rfl) ?_
        refine TL'.passU (.off _ _ _ _ rfl rfl rfl c_122) (dl rfl rfl) ?_
        refine TL'.passU (.off _ _ _ _ rfl rfl rfl c_122) (dl rfl rfl) ?_
        refine sp rfl (OpT.pickF rfl (dl rfl rfl) rfl c_122 rfl ?_)
        refine mv rfl rfl rfl rfl rfl ?_
        refine TL'.passU (.off _ _ _ _ rfl rfl rfl rfl) (dl rfl rfl) ?_
        refine TL'.passU (.off _ _ _ _ rfl rfl rfl rfl) (dl rfl rfl) ?_
        refine TL'.passU (.off _ _ _ _ rfl rfl rfl rfl) (dl rfl rfl) ?_
        refine TL'.passU (.off _ _ _ _ rfl rfl rfl rfl) (dl rfl rfl) ?_
        refine TL'.passU (.off _ _ _ _ rfl rfl rfl rfl) (dl rfl rfl) ?_
        refine sp rfl (OpT.pickF rfl (dl rfl rfl) rfl rfl rfl ?_)
        refine asg rfl rfl rfl rfl rfl ?_
        refine TL'.nil (thenS_normal ?_)
        refine T.ret ?_
        exact Fin.done (.cons _ _ _ _ (.tmp 2 _ rfl) .nil) (by cases h; exact ⟨rfl, rfl⟩)
    · refine TL'.passU (.off _ _ _ _ rfl rfl rfl c_121) (dl rfl rfl) ?_
      refine TL'.passU (.off _ _ _ _ rfl rfl rfl c_121) (dl rfl rfl) ?_
      refine TL'.passU (.off _ _ _ _ rfl rfl rfl c_121) (dl rfl rfl) ?_
      refine TL'.passU (.off _ _ _ _ rfl rfl rfl c_121) (dl rfl rfl) ?_
      refine TL'.passU (.off _ _ _ _ rfl rfl rfl c_121) (dl rfl rfl) ?_
      refine sp rfl (OpT.pickF rfl (dl rfl rfl) rfl c_121 rfl ?_)
      refine mv rfl rfl rfl rfl rfl ?_
      refine TL'.passU (.off _ _ _ _ rfl rfl rfl rfl) (dl rfl rfl) ?_
      refine TL'.passU (.off _ _ _ _ rfl rfl rfl rfl) (dl rfl rfl) ?_
      refine TL'.passU (.off _ _ _ _ rfl rfl rfl rfl) (dl rfl rfl) ?_
      refine TL'.passU (.off _ _ _ _ rfl rfl rfl rfl) (dl rfl rfl) ?_
      refine TL'.passU (.off _ _ _ _ rfl rfl rfl rfl) (dl rfl rfl) ?_
      refine sp rfl (OpT.pickF rfl (dl rfl rfl) rfl rfl rfl ?_)
      refine mv rfl rfl rfl rfl rfl ?_
      refine TL'.passU (.off _ _ _ _ rfl rfl rfl rfl) (dl rfl rfl) ?_
      refine TL'.passU (.off _ _ _ _ rfl rfl rfl rfl) (dl rfl rfl) ?_
      refine TL'.passU (.off _ _ _ _ rfl rfl rfl rfl) (dl rfl rfl) ?_
      refine TL'.passU (.off _ _ _ _ rfl rfl rfl rfl) (dl rfl rfl) ?_
      refine TL'.passU (.off _ _ _ _ rfl rfl rfl rfl) (dl rfl rfl) ?_
      refine sp rfl (OpT.pickF rfl (dl rfl rfl) rfl rfl rfl ?_)
      refine asg rfl rfl rfl rfl rfl ?_
      refine TL'.nil (thenS_normal ?_)
      refine T.ret ?_
      exact Fin.done (.cons _ _ _ _ (.tmp 2 _ rfl) .nil) (by cases h; exact ⟨rfl, rfl⟩)
  · refine TL'.passU (.off _ _ _ _ rfl rfl rfl c_120) (dl rfl rfl) ?_
    refine TL'.passU (.off _ _ _ _ rfl rfl rfl c_120) (dl rfl rfl) ?_
    refine TL'.passU (.off _ _ _ _ rfl rfl rfl c_120) (dl rfl rfl) ?_
    refine TL'.passU (.off _ _ _ _ rfl rfl rfl c_120) (dl rfl rfl) ?_
    refine TL'.passU (.off _ _ _ _ rfl rfl rfl c_120) (dl rfl rfl) ?_
    refine sp rfl (OpT.pickF rfl (dl rfl rfl) rfl c_120 rfl ?_)
    refine mv rfl rfl rfl rfl rfl ?_
    refine TL'.passU (.off _ _ _ _ rfl rfl rfl rfl) (dl rfl rfl) ?_
    refine TL'.passU (.off _ _ _ _ rfl rfl rfl rfl) (dl rfl rfl) ?_
    refine TL'.passU (.off _ _ _ _ rfl rfl rfl rfl) (dl rfl rfl) ?_
    refine TL'.passU (.off _ _ _ _ rfl rfl rfl rfl) (dl rfl rfl) ?_
    refine TL'.passU (.off _ _ _ _ rfl rfl rfl rfl) (dl rfl rfl) ?_
    refine sp rfl (OpT.pickF rfl (dl rfl rfl) rfl rfl rfl ?_)
    refine mv rfl rfl rfl rfl rfl ?_
    refine TL'.passU (.off _ _ _ _ rfl rfl rfl rfl) (dl rfl rfl) ?_
    refine TL'.passU (.off _ _ _ _ rfl rfl rfl rfl) (dl rfl rfl) ?_
    refine TL'.passU (.off _ _ _ _ rfl rfl rfl rfl) (dl rfl rfl) ?_
    refine TL'.passU (.off _ _ _ _ rfl rfl rfl rfl) (dl rfl rfl) ?_
    refine TL'.passU (.off _ _ _ _ rfl rfl rfl rfl) (dl rfl rfl) ?_
    refine sp rfl (OpT.pickF rfl (dl rfl rfl) rfl rfl rfl ?_)
    refine mv rfl rfl rfl rfl rfl ?_
    refine TL'.passU (.off _ _ _ _ rfl rfl rfl rfl) (dl rfl rfl) ?_
    refine TL'.passU (.off _ _ _ _ rfl rfl rfl rfl) (dl rfl rfl) ?_
    refine TL'.passU (.off _ _ _ _ rfl rfl rfl rfl) (dl rfl rfl) ?_
    refine TL'.passU (.off _ _ _ _ rfl rfl rfl rfl) (dl rfl rfl) ?_
    refine TL'.passU (.off _ _ _ _ rfl rfl rfl rfl) (dl rfl rfl) ?_
    refine sp rfl (OpT.pickF rfl (dl rfl rfl) rfl rfl rfl ?_)
    refine asg rfl rfl rfl rfl rfl ?_
    refine TL'.nil (thenS_normal ?_)
    refine T.ret ?_
    exact Fin.done (.cons _ _ _ _ (.tmp 2 _ rfl) .nil) (by cases h; exact ⟨rfl, rfl⟩)

theorem syntax_shaped_j1_T {r : Bool} (K : Nat) (h : syntax_shaped_j1 K = some r) : T Try.prog 104 (Code.at [1, 1, 1, 0, 1, 0, 1, 1, 1, 0, 1, 0, 1, 0] (codeOf Try.f24)) ⟨[], []⟩ (syntax_shaped_qs111010111011 r) := by
  unfold syntax_shaped_j1 at h
  refine T.seq ?_
  refine T.regionL ?_
  refine asg rfl rfl rfl rfl rfl ?_
  refine TL'.nil (thenS_normal ?_)
  refine T.ret (thenS_ret (inBlock_ret (thenS_ret ?_)))
  exact Fin.done (.cons _ _ _ _ (.tmp 2 _ rfl) .nil) (by cases h; exact ⟨rfl, rfl⟩)

theorem syntax_shaped_j2_T {r : Bool} (K : Nat) (x4_2_12 : Int) (x0 : api_Node) (y3_2_7 : Arr4) (b1_2 : Nat) (b3_2 : Nat) (h : syntax_shaped_j2 K x4_2_12 x0 y3_2_7 = some r) : T Try.prog 104 (Code.at [1, 1, 1, 0, 1, 0, 1, 1, 1, 0, 1, 0, 1, 1] (codeOf Try.f24)) ⟨[(1, .ptr b1_2 0), (3, .ptr b3_2 0), (4, .int .i64 x4_2_12)], [.box b1_2 36 [.d (.int .u8 x0.Op), .d (.int .u64 x0.S.a0), .d (.int .u64 x0.S.a1), .d (.int .u64 x0.S.a2), .d (.int .u64 x0.S.a3), .d (.sl false 1 (x0.L.map (cI .i64))), .d (.int .i64 x0.Lo), .d (.int .i64 x0.Hi), .d (.str x0.Name)], .box b3_2 36 [.d (.int .u8 x0.Op), .d (.int .u64 y3_2_7.a0), .d (.int .u64 y3_2_7.a1), .d (.int .u64 y3_2_7.a2), .d (.int .u64 y3_2_7.a3), .d (.sl false 1 (([] : List Int).map (cI .i64))), .d (.int .i64 x0.Lo), .d (.int .i64 x0.Hi), .d (.str (⟨#[]⟩ : ByteArray))]]⟩ (syntax_shaped_qs111010111011 r) := by
  unfold syntax_shaped_j2 at h
  refine T.skip (thenS_normal ?_)
  refine T.regionL ?_
  refine mv rfl rfl rfl rfl rfl ?_
  refine sp rfl (OpT.int2 rfl rfl (dl rfl rfl) rfl rfl ?_)
  refine asg rfl rfl rfl rfl rfl ?_
  refine TL'.nil (inBlock_normal (thenS_normal ?_))
  refine T.by_turn ?_ (syntax_shaped_j0_T K (IntKind.i64.wrap (x4_2_12 - (1 : Int))) x0 y3_2_7 x0.Lo x0.Hi (⟨#[]⟩ : ByteArray) b1_2 b3_2 h)
  exact Turn.rp (.cons rfl (.cons rfl (.cons rfl (.nil _)))) (.c .z (.c .z (.n _)))

theorem syntax_shaped_j3_T {r : Bool} (K : Nat) (x4_3_12 : Int) (x0 : api_Node) (x58_3_14 : Bool) (y3_3_7 : Arr4) (b1_3 : Nat) (b3_3 : Nat) (h : syntax_shaped_j3 K x4_3_12 x0 x58_3_14 y3_3_7 = some r) : T Try.prog 104 (Code.at [1, 1, 1, 0, 1, 0, 1, 1, 1, 1, 1] (codeOf Try.f24)) ⟨[(1, .ptr b1_3 0), (3, .ptr b3_3 0), (4, .int .i64 x4_3_12), (12, .int .u8 x0.Op), (58, .bool x58_3_14)], [.box b1_3 36 [.d (.int .u8 x0.Op), .d (.int .u64 x0.S.a0), .d (.int .u64 x0.S.a1), .d (.int .u64 x0.S.a2), .d (.int .u64 x0.S.a3), .d (.sl false 1 (x0.L.map (cI .i64))), .d (.int .i64 x0.Lo), .d (.int .i64 x0.Hi), .d (.str x0.Name)], .box b3_3 36 [.d (.int .u8 x0.Op), .d (.int .u64 y3_3_7.a0), .d (.int .u64 y3_3_7.a1), .d (.int .u64 y3_3_7.a2), .d (.int .u64 y3_3_7.a3), .d (.sl false 1 (([] : List Int).map (cI .i64))), .d (.int .i64 (0 : Int)), .d (.int .i64 (0 : Int)), .d (.str (⟨#[]⟩ : ByteArray))]]⟩ (syntax_shaped_qb0x1111 r) := by
  unfold syntax_shaped_j3 at h
  rcases bif_some h with ⟨c_132, h⟩ | ⟨c_132, h⟩
  · refine T.condT rfl c_132 ?_
    refine T.seq ?_
    refine T.seq ?_
    refine T.regionL ?_
    refine mv rfl rfl rfl rfl rfl ?_
    refine sp rfl (OpT.int2 rfl rfl (dl rfl rfl) rfl rfl ?_)
    refine TL'.nil (thenS_normal ?_)
    rcases bif_some h with ⟨c_133, h⟩ | ⟨c_133, h⟩
    · refine T.condT rfl c_133 ?_
      refine T.seq ?_
      refine T.regionL ?_
      refine asg rfl rfl rfl rfl rfl ?_
      refine TL'.nil (thenS_normal ?_)
      refine T.ret (thenS_ret (inBlock_ret (thenS_ret ?_)))
      exact Fin.done (.cons _ _ _ _ (.tmp 2 _ rfl) .nil) (by cases h; exact ⟨rfl, rfl⟩)
    · refine T.condF rfl c_133 ?_
      refine T.skip (thenS_normal ?_)
      refine T.regionL ?_
      refine asg rfl rfl rfl rfl rfl ?_
      refine TL'.nil (inBlock_normal (thenS_normal ?_))
      refine T.by_turn ?_ (syntax_shaped_j0_T K (0 : Int) x0 y3_3_7 (0 : Int) (0 : Int) (⟨#[]⟩ : ByteArray) b1_3 b3_3 h)
      exact Turn.rp (.cons rfl (.cons rfl (.cons rfl (.nil _)))) (.c .z (.c .z (.n _)))
  · refine T.condF rfl c_132 ?_
    refine T.seq ?_
    refine T.regionL ?_
    refine sp rfl (OpT.int2 rfl rfl (dl rfl rfl) rfl rfl ?_)
    refine asg rfl rfl rfl rfl rfl ?_
    refine TL'.nil (thenS_normal ?_)
    rcases bif_some h with ⟨c_134, h⟩ | ⟨c_134, h⟩
    · refine T.condT rfl c_134 ?_
      refine T.seq ?_
      refine T.regionL ?_
      refine sp rfl (OpT.fieldPtr rfl (dl rfl rfl) Try.underlying36 rfl i9 (by decide) rfl ?_)
      refine sp rfl (OpT.loadBox (i := 0) rfl (dl rfl rfl) Try.underlying9 rfl rfl rfl rfl ?_)
      refine sp rfl (OpT.fieldPtr rfl (dl rfl rfl) Try.underlying36 rfl i9 (by decide) rfl ?_)
      refine sp rfl (OpT.storeTo (i := 1) (cells' := [.d (.int .u8 x0.Op), .d (.int .u64 y3_3_7.a0), .d (.int .u64 y3_3_7.a1), .d (.int .u64 y3_3_7.a2), .d (.int .u64 y3_3_7.a3), .d (.sl false 1 (([] : List Int).map (cI .i64))), .d (.int .i64 (0 : Int)), .d (.int .i64 (0 : Int)), .d (.str x0.Name)]) rfl rfl i9 rfl rfl rfl (Nat.le_of_ble_eq_true rfl) rfl ?_)
      refine TL'.nil (thenS_normal ?_)
      refine T.seq ?_
      refine T.regionL ?_
      refine sp rfl (OpT.fieldPtr rfl (dl rfl rfl) Try.underlying36 rfl i9 (by decide) rfl ?_)
      refine sp rfl (OpT.loadBox (i := 0) rfl (dl rfl rfl) Try.underlying9 rfl rfl rfl rfl ?_)
      obtain ⟨v_135, e_136, h⟩ := bind_some h
      refine sp rfl (OpT.callPA rfl (dl rfl rfl) Try.func14 rfl rfl (Args.cons rfl Args.nil) (CallR.nil (syntax_Name_T K e_136)) ?_)
      refine sp rfl (OpT.not rfl (dl rfl rfl) rfl ?_)
      refine TL'.nil (thenS_normal ?_)
      rcases bif_some h with ⟨c_137, h⟩ | ⟨c_137, h⟩
      · refine T.condT rfl c_137 ?_
        refine T.seq ?_
        refine T.regionL ?_
        refine asg rfl rfl rfl rfl rfl ?_
        refine TL'.nil (thenS_normal ?_)
        refine T.ret (inBlock_ret (thenS_ret ?_))
        exact Fin.done (.cons _ _ _ _ (.tmp 2 _ rfl) .nil) (by cases h; exact ⟨rfl, rfl⟩)
      · refine T.condF rfl c_137 ?_
        refine T.skip (inBlock_normal (thenS_normal ?_))
        refine T.by_turn ?_ (syntax_shaped_j0_T K x4_3_12 x0 y3_3_7 (0 : Int) (0 : Int) x0.Name b1_3 b3_3 h)
        exact Turn.rp (.cons rfl (.cons rfl (.cons rfl (.nil _)))) (.c .z (.c .z (.n _)))
    · refine T.condF rfl c_134 ?_
      refine T.seq ?_
      refine T.regionL ?_
      refine sp rfl (OpT.int2 rfl rfl (dl rfl rfl) rfl rfl ?_)
      refine asg rfl rfl rfl rfl rfl ?_
      refine TL'.nil (thenS_normal ?_)
      rcases bif_some h with ⟨c_138, h⟩ | ⟨c_138, h⟩
      · refine T.condT rfl c_138 ?_
        refine T.skip (inBlock_normal (thenS_normal ?_))
        refine T.by_turn ?_ (syntax_shaped_j0_T K x4_3_12 x0 y3_3_7 (0 : Int) (0 : Int) (⟨#[]⟩ : ByteArray) b1_3 b3_3 h)
        exact Turn.rp (.cons rfl (.cons rfl (.cons rfl (.nil _)))) (.c .z (.c .z (.n _)))
      · refine T.condF rfl c_138 ?_
        refine T.seq ?_
        refine T.regionL ?_
        refine asg rfl rfl rfl rfl rfl ?_
        refine TL'.nil (thenS_normal ?_)
        refine T.ret (inBlock_ret (thenS_ret ?_))
        exact Fin.done (.cons _ _ _ _ (.tmp 2 _ rfl) .nil) (by cases h; exact ⟨rfl, rfl⟩)

theorem syntax_shaped_T (K : Nat) {x0 : api_Node} {r : Bool} (h : syntax_shaped K x0 = some r) : CallR Try.prog 24 [.agg [.int .u8 x0.Op, .int .u64 x0.S.a0, .int .u64 x0.S.a1, .int .u64 x0.S.a2, .int .u64 x0.S.a3, .sl false 1 (x0.L.map (cI .i64)), .int .i64 x0.Lo, .int .i64 x0.Hi, .str x0.Name]] [] (.bool r) := by
  refine CallT.intro Try.func24 rfl (Nat.le_of_ble_eq_true rfl) ?_
  show T Try.prog 104 (Code.at [] (codeOf Try.f24)) ⟨paramSlots 0 [.agg [.int .u8 x0.Op, .int .u64 x0.S.a0, .int .u64 x0.S.a1, .int .u64 x0.S.a2, .int .u64 x0.S.a3, .sl false 1 (x0.L.map (cI .i64)), .int .i64 x0.Lo, .int .i64 x0.Hi, .str x0.Name]], []⟩ (syntax_shaped_q r)
  unfold syntax_shaped at h
  refine T.seq ?_
  refine T.regionL ?_
  refine sp rfl (OpT.boxAgg rfl (dl rfl rfl) rfl (fun b_116 => ?_))
  refine asg rfl rfl rfl rfl rfl ?_
  refine TL'.nil (thenS_normal ?_)
  refine T.seq ?_
  refine T.regionL ?_
  refine sp rfl (OpT.fieldPtr rfl (dl rfl rfl) Try.underlying36 rfl i5 (by decide) rfl ?_)
  refine sp rfl (OpT.loadBox (i := 0) rfl (dl rfl rfl) Try.underlying5 rfl rfl rfl rfl ?_)
  refine sp rfl (OpT.thenTurn (OpT.build (l := [.int .u8 x0.Op, .int .u64 (Arr4.mk 0 0 0 0).a0, .int .u64 (Arr4.mk 0 0 0 0).a1, .int .u64 (Arr4.mk 0 0 0 0).a2, .int .u64 (Arr4.mk 0 0 0 0).a3, .ex (.slice none 0 0), .int .i64 (0 : Int), .int .i64 (0 : Int), .str (⟨#[]⟩ : ByteArray)]) rfl (dl rfl rfl) (built_struct (pl := [(0, 1), (1, 4), (5, 1), (6, 1), (7, 1), (8, 1)]) Try.underlying36 i36 rfl) (all1 rfl) rfl rfl rfl) (Turn.weakSlotP 7 (l := [.int .u8 x0.Op, .int .u64 (Arr4.mk 0 0 0 0).a0, .int .u64 (Arr4.mk 0 0 0 0).a1, .int .u64 (Arr4.mk 0 0 0 0).a2, .int .u64 (Arr4.mk 0 0 0 0).a3, .ex (.slice none 0 0), .int .i64 (0 : Int), .int .i64 (0 : Int), .str (⟨#[]⟩ : ByteArray)]) (l' := [.int .u8 x0.Op, .int .u64 (Arr4.mk 0 0 0 0).a0, .int .u64 (Arr4.mk 0 0 0 0).a1, .int .u64 (Arr4.mk 0 0 0 0).a2, .int .u64 (Arr4.mk 0 0 0 0).a3, .sl false 1 (([] : List Int).map (cI .i64)), .int .i64 (0 : Int), .int .i64 (0 : Int), .str (⟨#[]⟩ : ByteArray)]) (.cons (.same _) (.cons (.same _) (.cons (.same _) (.cons (.same _) (.cons (.same _) (.cons (.nil _ _) (.cons (.same _) (.cons (.same _) (.cons (.same _) (.refl _))))))))))) ?_)
  refine sp rfl (OpT.alloc' rfl (dl rfl rfl) i36 rfl (fun b_117 => ?_))
  refine sp rfl (OpT.storeAggTo (i := 0) (cells' := [.d (.int .u8 x0.Op), .d (.int .u64 (Arr4.mk 0 0 0 0).a0), .d (.int .u64 (Arr4.mk 0 0 0 0).a1), .d (.int .u64 (Arr4.mk 0 0 0 0).a2), .d (.int .u64 (Arr4.mk 0 0 0 0).a3), .d (.sl false 1 (([] : List Int).map (cI .i64))), .d (.int .i64 (0 : Int)), .d (.int .i64 (0 : Int)), .d (.str (⟨#[]⟩ : ByteArray))]) rfl rfl i36 rfl rfl rfl rfl (Nat.le_of_ble_eq_true rfl) rfl ?_)
  refine TL'.nil (thenS_normal ?_)
  refine T.seq ?_
  refine T.regionL ?_
  refine sp rfl (OpT.fieldPtr rfl (dl rfl rfl) Try.underlying36 rfl i34 (by decide) rfl ?_)
  refine sp rfl (OpT.loadBox (i := 1) rfl (dl rfl rfl) Try.underlying34 rfl rfl rfl rfl ?_)
  refine sp rfl (OpT.lenSlM (xs := x0.L) (f := (cI .i64)) rfl (dl rfl rfl) Try.underlying34 rfl ?_)
  refine asg rfl rfl rfl rfl rfl ?_
  refine TL'.nil (thenS_normal ?_)
  refine T.seq ?_
  refine T.seq ?_
  refine T.regionL ?_
  refine sp rfl (OpT.fieldPtr rfl (dl rfl rfl) Try.underlying36 rfl i5 (by decide) rfl ?_)
  refine sp rfl (OpT.loadBox (i := 1) rfl (dl rfl rfl) Try.underlying5 rfl rfl rfl rfl ?_)
  refine TL'.nil (thenS_normal ?_)
  refine T.block ?_
  refine T.seq ?_
  refine T.regionL ?_
  refine sp rfl (OpT.int2 rfl rfl (dl rfl rfl) rfl rfl ?_)
  refine asg rfl rfl rfl rfl rfl ?_
  refine TL'.nil (thenS_normal ?_)
  rcases bif_some h with ⟨c_118, h⟩ | ⟨c_118, h⟩
  · refine T.condT rfl c_118 ?_
    refine T.seq ?_
    refine T.regionL ?_
    refine sp rfl (OpT.fieldPtr rfl (dl rfl rfl) Try.underlying36 rfl i33 (by decide) rfl ?_)
    refine sp rfl (OpT.loadBoxAgg (i := 1) (l := (Arr4.dc .u64 x0.S)) rfl (dl rfl rfl) Try.underlying33 rfl i33 rfl rfl rfl rfl ?_)
    refine sp rfl (OpT.fieldPtr rfl (dl rfl rfl) Try.underlying36 rfl i33 (by decide) rfl ?_)
    refine sp rfl (OpT.storeAggTo (i := 0) (cells' := [.d (.int .u8 x0.Op), .d (.int .u64 x0.S.a0), .d (.int .u64 x0.S.a1), .d (.int .u64 x0.S.a2), .d (.int .u64 x0.S.a3), .d (.sl false 1 (([] : List Int).map (cI .i64))), .d (.int .i64 (0 : Int)), .d (.int .i64 (0 : Int)), .d (.str (⟨#[]⟩ : ByteArray))]) rfl rfl i33 rfl rfl rfl rfl (Nat.le_of_ble_eq_true rfl) rfl ?_)
    refine TL'.nil (thenS_normal ?_)
    refine T.seq ?_
    refine T.regionL ?_
    refine sp rfl (OpT.fieldPtr rfl (dl rfl rfl) Try.underlying36 rfl i33 (by decide) rfl ?_)
    refine sp rfl (OpT.loadBoxAgg (i := 1) (l := (Arr4.dc .u64 x0.S)) rfl (dl rfl rfl) Try.underlying33 rfl i33 rfl rfl rfl rfl ?_)
    refine sp rfl (OpT.build (l := (Arr4.dc .u64 (Arr4.mk 0 0 0 0))) rfl (dl rfl rfl) (built_arr Try.underlying33 i33 i31) (all1 rfl) rfl rfl ?_)
    refine sp rfl (OpT.intsEql (k := .u64) (xs := [x0.S.a0, x0.S.a1, x0.S.a2, x0.S.a3]) (ys := [(Arr4.mk 0 0 0 0).a0, (Arr4.mk 0 0 0 0).a1, (Arr4.mk 0 0 0 0).a2, (Arr4.mk 0 0 0 0).a3]) rfl (dl rfl rfl) Try.underlying33 Try.underlying31 i31 Try.eqGuardType33 rfl rfl rfl rfl rfl rfl (Arr4.same_eq x0.S (Arr4.mk 0 0 0 0)) ?_)
    refine TL'.nil (thenS_normal ?_)
    rcases bif_some h with ⟨c_119, h⟩ | ⟨c_119, h⟩
    · refine T.condT rfl c_119 ?_
      refine T.seq ?_
      refine T.regionL ?_
      refine asg rfl rfl rfl rfl rfl ?_
      refine TL'.nil (thenS_normal ?_)
      refine T.ret (inBlock_ret (thenS_ret ?_))
      exact Fin.done (.cons _ _ _ _ (.tmp 2 _ rfl) .nil) (by cases h; exact ⟨rfl, rfl⟩)
    · refine T.condF rfl c_119 ?_
      refine T.skip (inBlock_normal (thenS_normal ?_))
      refine T.by_turn ?_ (syntax_shaped_j0_T K (x0.L.length : Int) x0 x0.S (0 : Int) (0 : Int) (⟨#[]⟩ : ByteArray) b_116 b_117 h)
      exact Turn.rp (.cons rfl (.cons rfl (.cons rfl (.nil _)))) (.c (.s .z) (.c .z (.n _)))
  · refine T.condF rfl c_118 ?_
    refine T.seq ?_
    refine T.regionL ?_
    refine sp rfl (OpT.int2 rfl rfl (dl rfl rfl) rfl rfl ?_)
    refine asg rfl rfl rfl rfl rfl ?_
    refine TL'.nil (thenS_normal ?_)
    rcases bif_some h with ⟨c_124, h⟩ | ⟨c_124, h⟩
    · refine T.condT rfl c_124 ?_
      refine T.seq ?_
      refine DG.start ?_
      refine DG.step (c := ⟨some 24, .ptr b_116 (0 + 6), [(1, .ptr b_116 0)], [], []⟩) (fun t hm => One.step rfl (.free rfl) (OpT.fieldPtr rfl (dl rfl rfl) Try.underlying36 rfl i3 (by decide) hm.s0 rfl)) (Ct.met_of rfl rfl) ?_
      refine DG.step (c := ⟨some 25, .int .i64 x0.Lo, [(24, .ptr b_116 (0 + 6))], [(1, .box b_116 36 [.d (.int .u8 x0.Op), .d (.int .u64 x0.S.a0), .d (.int .u64 x0.S.a1), .d (.int .u64 x0.S.a2), .d (.int .u64 x0.S.a3), .d (.sl false 1 (x0.L.map (cI .i64))), .d (.int .i64 x0.Lo), .d (.int .i64 x0.Hi), .d (.str x0.Name)])], []⟩) (fun t hm => One.step rfl (.free rfl) (OpT.loadBox (i := 1) rfl (dl rfl rfl) Try.underlying3 rfl hm.s0 hm.o0 rfl rfl)) (Ct.met_of rfl rfl) ?_
      refine DG.step (c := ⟨some 26, .ptr b_116 (0 + 7), [(1, .ptr b_116 0)], [], []⟩) (fun t hm => One.step rfl (.free rfl) (OpT.fieldPtr rfl (dl rfl rfl) Try.underlying36 rfl i3 (by decide) hm.s0 rfl)) (Ct.met_of rfl rfl) ?_
      refine DG.step (c := ⟨some 27, .int .i64 x0.Hi, [(26, .ptr b_116 (0 + 7))], [(1, .box b_116 36 [.d (.int .u8 x0.Op), .d (.int .u64 x0.S.a0), .d (.int .u64 x0.S.a1), .d (.int .u64 x0.S.a2), .d (.int .u64 x0.S.a3), .d (.sl false 1 (x0.L.map (cI .i64))), .d (.int .i64 x0.Lo), .d (.int .i64 x0.Hi), .d (.str x0.Name)])], []⟩) (fun t hm => One.step rfl (.free rfl) (OpT.loadBox (i := 1) rfl (dl rfl rfl) Try.underlying3 rfl hm.s0 hm.o0 rfl rfl)) (Ct.met_of rfl rfl) ?_
      refine DG.step (c := ⟨some 28, .ptr b_117 (0 + 6), [(3, .ptr b_117 0)], [], []⟩) (fun t hm => One.step rfl (.free rfl) (OpT.fieldPtr rfl (dl rfl rfl) Try.underlying36 rfl i3 (by decide) hm.s0 rfl)) (Ct.met_of rfl rfl) ?_
      refine DG.step (c := ⟨none, .any, [(28, .ptr b_117 (0 + 6)), (25, .int .i64 x0.Lo)], [(0, .box b_117 36 [.d (.int .u8 x0.Op), .d (.int .u64 (Arr4.mk 0 0 0 0).a0), .d (.int .u64 (Arr4.mk 0 0 0 0).a1), .d (.int .u64 (Arr4.mk 0 0 0 0).a2), .d (.int .u64 (Arr4.mk 0 0 0 0).a3), .d (.sl false 1 (([] : List Int).map (cI .i64))), .d (.int .i64 (0 : Int)), .d (.int .i64 (0 : Int)), .d (.str (⟨#[]⟩ : ByteArray))])], [(0, .box b_117 36 [.d (.int .u8 x0.Op), .d (.int .u64 (Arr4.mk 0 0 0 0).a0), .d (.int .u64 (Arr4.mk 0 0 0 0).a1), .d (.int .u64 (Arr4.mk 0 0 0 0).a2), .d (.int .u64 (Arr4.mk 0 0 0 0).a3), .d (.sl false 1 (([] : List Int).map (cI .i64))), .d (.int .i64 x0.Lo), .d (.int .i64 (0 : Int)), .d (.str (⟨#[]⟩ : ByteArray))])]⟩) (fun t hm => One.step rfl (.free rfl) (OpT.storeTo (i := 0) (cells' := [.d (.int .u8 x0.Op), .d (.int .u64 (Arr4.mk 0 0 0 0).a0), .d (.int .u64 (Arr4.mk 0 0 0 0).a1), .d (.int .u64 (Arr4.mk 0 0 0 0).a2), .d (.int .u64 (Arr4.mk 0 0 0 0).a3), .d (.sl false 1 (([] : List Int).map (cI .i64))), .d (.int .i64 x0.Lo), .d (.int .i64 (0 : Int)), .d (.str (⟨#[]⟩ : ByteArray))]) rfl rfl i3 hm.s0 hm.s1 hm.o0 (Nat.le_of_ble_eq_true rfl) rfl rfl)) (Ct.met_of rfl rfl) ?_
      refine DG.step (c := ⟨some 29, .ptr b_117 (0 + 7), [(3, .ptr b_117 0)], [], []⟩) (fun t hm => One.step rfl (.free rfl) (OpT.fieldPtr rfl (dl rfl rfl) Try.underlying36 rfl i3 (by decide) hm.s0 rfl)) (Ct.met_of rfl rfl) ?_
      refine DG.step (c := ⟨none, .any, [(29, .ptr b_117 (0 + 7)), (27, .int .i64 x0.Hi)], [(0, .box b_117 36 [.d (.int .u8 x0.Op), .d (.int .u64 (Arr4.mk 0 0 0 0).a0), .d (.int .u64 (Arr4.mk 0 0 0 0).a1), .d (.int .u64 (Arr4.mk 0 0 0 0).a2), .d (.int .u64 (Arr4.mk 0 0 0 0).a3), .d (.sl false 1 (([] : List Int).map (cI .i64))), .d (.int .i64 x0.Lo), .d (.int .i64 (0 : Int)), .d (.str (⟨#[]⟩ : ByteArray))])], [(0, .box b_117 36 [.d (.int .u8 x0.Op), .d (.int .u64 (Arr4.mk 0 0 0 0).a0), .d (.int .u64 (Arr4.mk 0 0 0 0).a1), .d (.int .u64 (Arr4.mk 0 0 0 0).a2), .d (.int .u64 (Arr4.mk 0 0 0 0).a3), .d (.sl false 1 (([] : List Int).map (cI .i64))), .d (.int .i64 x0.Lo), .d (.int .i64 x0.Hi), .d (.str (⟨#[]⟩ : ByteArray))])]⟩) (fun t hm => One.step rfl (.free rfl) (OpT.storeTo (i := 0) (cells' := [.d (.int .u8 x0.Op), .d (.int .u64 (Arr4.mk 0 0 0 0).a0), .d (.int .u64 (Arr4.mk 0 0 0 0).a1), .d (.int .u64 (Arr4.mk 0 0 0 0).a2), .d (.int .u64 (Arr4.mk 0 0 0 0).a3), .d (.sl false 1 (([] : List Int).map (cI .i64))), .d (.int .i64 x0.Lo), .d (.int .i64 x0.Hi), .d (.str (⟨#[]⟩ : ByteArray))]) rfl rfl i3 hm.s0 hm.s1 hm.o0 (Nat.le_of_ble_eq_true rfl) rfl rfl)) (Ct.met_of rfl rfl) ?_
      refine DG.fin (s1 := ⟨[(1, .ptr b_116 0), (3, .ptr b_117 0), (4, .int .i64 (x0.L.length : Int))], [.box b_117 36 [.d (.int .u8 x0.Op), .d (.int .u64 (Arr4.mk 0 0 0 0).a0), .d (.int .u64 (Arr4.mk 0 0 0 0).a1), .d (.int .u64 (Arr4.mk 0 0 0 0).a2), .d (.int .u64 (Arr4.mk 0 0 0 0).a3), .d (.sl false 1 (([] : List Int).map (cI .i64))), .d (.int .i64 x0.Lo), .d (.int .i64 x0.Hi), .d (.str (⟨#[]⟩ : ByteArray))], .box b_116 36 [.d (.int .u8 x0.Op), .d (.int .u64 x0.S.a0), .d (.int .u64 x0.S.a1), .d (.int .u64 x0.S.a2), .d (.int .u64 x0.S.a3), .d (.sl false 1 (x0.L.map (cI .i64))), .d (.int .i64 x0.Lo), .d (.int .i64 x0.Hi), .d (.str x0.Name)]]⟩) (ms := [0, 1, 0, 4, 3, 19, 63, 127]) TryMixed rfl (by kernel_rfl) (by kernel_rfl) (by kernel_rfl) (.cons rfl (.cons rfl (.cons rfl (.nil _)))) rfl (fun u hu => (thenS_normal (T.by_turn hu ?_)))
      refine T.seq ?_
      refine T.seq ?_
      refine T.regionL ?_
      refine sp rfl (OpT.fieldPtr rfl (dl rfl rfl) Try.underlying36 rfl i3 (by decide) rfl ?_)
      refine sp rfl (OpT.loadBox (i := 1) rfl (dl rfl rfl) Try.underlying3 rfl rfl rfl rfl ?_)
      refine sp rfl (OpT.int2 rfl rfl (dl rfl rfl) rfl rfl ?_)
      refine mv rfl rfl rfl rfl rfl ?_
      rcases bif_some h with ⟨c_126, h⟩ | ⟨c_126, h⟩
      · refine TL'.passU (.off _ _ _ _ rfl rfl rfl c_126) (dl rfl rfl) ?_
        refine TL'.passU (.off _ _ _ _ rfl rfl rfl c_126) (dl rfl rfl) ?_
        refine TL'.passU (.off _ _ _ _ rfl rfl rfl c_126) (dl rfl rfl) ?_
        refine sp rfl (OpT.pickT rfl (dl rfl rfl) rfl c_126 rfl ?_)
        refine mv rfl rfl rfl rfl rfl ?_
        refine TL'.passU (.off _ _ _ _ rfl rfl rfl rfl) (dl rfl rfl) ?_
        refine TL'.passU (.off _ _ _ _ rfl rfl rfl rfl) (dl rfl rfl) ?_
        refine TL'.passU (.off _ _ _ _ rfl rfl rfl rfl) (dl rfl rfl) ?_
        refine TL'.passU (.off _ _ _ _ rfl rfl rfl rfl) (dl rfl rfl) ?_
        refine TL'.passU (.gone _ _ _ rfl rfl rfl) (dl rfl rfl) ?_
        refine TL'.passU (.gone _ _ _ rfl rfl rfl) (dl rfl rfl) ?_
        refine TL'.passU (.gone _ _ _ rfl rfl rfl) (dl rfl rfl) ?_
        refine TL'.passU (.gone _ _ _ rfl rfl rfl) (dl rfl rfl) ?_
        refine TL'.passU (.gone _ _ _ rfl rfl rfl) (dl rfl rfl) ?_
        refine TL'.passU (.gone _ _ _ rfl rfl rfl) (dl rfl rfl) ?_
        refine TL'.passU (.gone _ _ _ rfl rfl rfl) (dl rfl rfl) ?_
        refine TL'.passU (.gone _ _ _ rfl rfl rfl) (dl rfl rfl) ?_
        refine TL'.passU (.gone _ _ _ rfl rfl rfl) (dl rfl rfl) ?_
        refine TL'.passU (.gone _ _ _ rfl rfl rfl) (dl rfl rfl) ?_
        refine TL'.passU (.gone _ _ _ rfl rfl rfl) (dl rfl rfl) ?_
        refine TL'.passU (.off _ _ _ _ rfl rfl rfl rfl) (dl rfl rfl) ?_
        refine sp rfl (OpT.pickT rfl (dl rfl rfl) rfl rfl rfl ?_)
        refine TL'.nil (thenS_normal ?_)
        refine T.condT rfl rfl ?_
        refine T.by_turn ?_ (syntax_shaped_j1_T K h)
        exact Turn.rp (.nil _) (.n _)
      · refine TL'.step (.on rfl rfl rfl c_126) (OpT.fieldPtr rfl (dl rfl rfl) Try.underlying36 rfl i3 (by decide) rfl ?_)
        refine TL'.step (.on rfl rfl rfl c_126) (OpT.loadBox (i := 1) rfl (dl rfl rfl) Try.underlying3 rfl rfl rfl rfl ?_)
        refine TL'.step (.on rfl rfl rfl c_126) (OpT.int2 rfl rfl (dl rfl rfl) rfl rfl ?_)
        refine sp rfl (OpT.pickF rfl (dl rfl rfl) rfl c_126 rfl ?_)
        refine mv rfl rfl rfl rfl rfl ?_
        rcases bif_some h with ⟨c_127, h⟩ | ⟨c_127, h⟩
        · refine TL'.passU (.off _ _ _ _ rfl rfl rfl c_127) (dl rfl rfl) ?_
          refine TL'.passU (.off _ _ _ _ rfl rfl rfl c_127) (dl rfl rfl) ?_
          refine TL'.passU (.off _ _ _ _ rfl rfl rfl c_127) (dl rfl rfl) ?_
          refine TL'.passU (.off _ _ _ _ rfl rfl rfl c_127) (dl rfl rfl) ?_
          refine TL'.passU (.gone _ _ _ rfl rfl rfl) (dl rfl rfl) ?_
          refine TL'.passU (.gone _ _ _ rfl rfl rfl) (dl rfl rfl) ?_
          refine TL'.passU (.gone _ _ _ rfl rfl rfl) (dl rfl rfl) ?_
          refine TL'.passU (.gone _ _ _ rfl rfl rfl) (dl rfl rfl) ?_
          refine TL'.passU (.gone _ _ _ rfl rfl rfl) (dl rfl rfl) ?_
          refine TL'.passU (.gone _ _ _ rfl rfl rfl) (dl rfl rfl) ?_
          refine TL'.passU (.gone _ _ _ rfl rfl rfl) (dl rfl rfl) ?_
          refine TL'.passU (.gone _ _ _ rfl rfl rfl) (dl rfl rfl) ?_
          refine TL'.passU (.gone _ _ _ rfl rfl rfl) (dl rfl rfl) ?_
          refine TL'.passU (.gone _ _ _ rfl rfl rfl) (dl rfl rfl) ?_
          refine TL'.passU (.gone _ _ _ rfl rfl rfl) (dl rfl rfl) ?_
          refine TL'.passU (.off _ _ _ _ rfl rfl rfl c_127) (dl rfl rfl) ?_
          refine sp rfl (OpT.pickT rfl (dl rfl rfl) rfl c_127 rfl ?_)
          refine TL'.nil (thenS_normal ?_)
          refine T.condT rfl rfl ?_
          refine T.by_turn ?_ (syntax_shaped_j1_T K h)
          exact Turn.rp (.nil _) (.n _)
        · refine TL'.step (.on rfl rfl rfl c_127) (OpT.fieldPtr rfl (dl rfl rfl) Try.underlying36 rfl i3 (by decide) rfl ?_)
          refine TL'.step (.on rfl rfl rfl c_127) (OpT.loadBox (i := 1) rfl (dl rfl rfl) Try.underlying3 rfl rfl rfl rfl ?_)
          refine TL'.step (.on rfl rfl rfl c_127) (OpT.int2 rfl rfl (dl rfl rfl) rfl rfl ?_)
          refine TL'.step (.on rfl rfl rfl c_127) (OpT.move rfl (dl rfl rfl) rfl ?_)
          rcases bif_some h with ⟨c_128, h⟩ | ⟨c_128, h⟩
          · refine TL'.step (.on rfl rfl rfl c_128) (OpT.fieldPtr rfl (dl rfl rfl) Try.underlying36 rfl i3 (by decide) rfl ?_)
            refine TL'.step (.on rfl rfl rfl c_128) (OpT.loadBox (i := 1) rfl (dl rfl rfl) Try.underlying3 rfl rfl rfl rfl ?_)
            refine TL'.step (.on rfl rfl rfl c_128) (OpT.fieldPtr rfl (dl rfl rfl) Try.underlying36 rfl i3 (by decide) rfl ?_)
            refine TL'.step (.on rfl rfl rfl c_128) (OpT.loadBox (i := 1) rfl (dl rfl rfl) Try.underlying3 rfl rfl rfl rfl ?_)
            refine TL'.step (.on rfl rfl rfl c_128) (OpT.max2 rfl (dl rfl rfl) rfl rfl ?_)
            refine TL'.step (.on rfl rfl rfl c_128) (OpT.int2 rfl rfl (dl rfl rfl) rfl rfl ?_)
            refine TL'.step (.on rfl rfl rfl c_128) (OpT.move rfl (dl rfl rfl) rfl ?_)
            rcases bif_some h with ⟨c_129, h⟩ | ⟨c_129, h⟩
            · refine TL'.passU (.off _ _ _ _ rfl rfl rfl c_129) (dl rfl rfl) ?_
              refine TL'.passU (.off _ _ _ _ rfl rfl rfl c_129) (dl rfl rfl) ?_
              refine TL'.passU (.off _ _ _ _ rfl rfl rfl c_129) (dl rfl rfl) ?_
              refine TL'.step (.on rfl rfl rfl c_128) (OpT.pickT rfl (dl rfl rfl) rfl c_129 rfl ?_)
              refine TL'.step (.on rfl rfl rfl c_127) (OpT.pickT rfl (dl rfl rfl) rfl c_128 rfl ?_)
              refine sp rfl (OpT.pickF rfl (dl rfl rfl) rfl c_127 rfl ?_)
              refine TL'.nil (thenS_normal ?_)
              refine T.condT rfl rfl ?_
              refine T.by_turn ?_ (syntax_shaped_j1_T K h)
              exact Turn.rp (.nil _) (.n _)
            · refine TL'.step (.on rfl rfl rfl c_129) (OpT.fieldPtr rfl (dl rfl rfl) Try.underlying36 rfl i3 (by decide) rfl ?_)
              refine TL'.step (.on rfl rfl rfl c_129) (OpT.loadBox (i := 1) rfl (dl rfl rfl) Try.underlying3 rfl rfl rfl rfl ?_)
              refine TL'.step (.on rfl rfl rfl c_129) (OpT.int2 rfl rfl (dl rfl rfl) rfl rfl ?_)
              refine TL'.step (.on rfl rfl rfl c_128) (OpT.pickF rfl (dl rfl rfl) rfl c_129 rfl ?_)
              refine TL'.step (.on rfl rfl rfl c_127) (OpT.pickT rfl (dl rfl rfl) rfl c_128 rfl ?_)
              refine sp rfl (OpT.pickF rfl (dl rfl rfl) rfl c_127 rfl ?_)
              refine TL'.nil (thenS_normal ?_)
              rcases bif_some h with ⟨c_130, h⟩ | ⟨c_130, h⟩
              · refine T.condT rfl c_130 ?_
                refine T.by_turn ?_ (syntax_shaped_j1_T K h)
                exact Turn.rp (.nil _) (.n _)
              · refine T.condF rfl c_130 ?_
                refine T.by_turn ?_ (syntax_shaped_j2_T K (x0.L.length : Int) x0 (Arr4.mk 0 0 0 0) b_116 b_117 h)
                exact Turn.rp (.cons rfl (.cons rfl (.cons rfl (.nil _)))) (.c (.s .z) (.c .z (.n _)))
          · refine TL'.passU (.off _ _ _ _ rfl rfl rfl c_128) (dl rfl rfl) ?_
            refine TL'.passU (.off _ _ _ _ rfl rfl rfl c_128) (dl rfl rfl) ?_
            refine TL'.passU (.off _ _ _ _ rfl rfl rfl c_128) (dl rfl rfl) ?_
            refine TL'.passU (.off _ _ _ _ rfl rfl rfl c_128) (dl rfl rfl) ?_
            refine TL'.passU (.off _ _ _ _ rfl rfl rfl c_128) (dl rfl rfl) ?_
            refine TL'.passU (.off _ _ _ _ rfl rfl rfl c_128) (dl rfl rfl) ?_
            refine TL'.passU (.off _ _ _ _ rfl rfl rfl c_128) (dl rfl rfl) ?_
            refine TL'.passU (.gone _ _ _ rfl rfl rfl) (dl rfl rfl) ?_
            refine TL'.passU (.gone _ _ _ rfl rfl rfl) (dl rfl rfl) ?_
            refine TL'.passU (.gone _ _ _ rfl rfl rfl) (dl rfl rfl) ?_
            refine TL'.passU (.off _ _ _ _ rfl rfl rfl c_128) (dl rfl rfl) ?_
            refine TL'.step (.on rfl rfl rfl c_127) (OpT.pickF rfl (dl rfl rfl) rfl c_128 rfl ?_)
            refine sp rfl (OpT.pickF rfl (dl rfl rfl) rfl c_127 rfl ?_)
            refine TL'.nil (thenS_normal ?_)
            refine T.condF rfl rfl ?_
            refine T.by_turn ?_ (syntax_shaped_j2_T K (x0.L.length : Int) x0 (Arr4.mk 0 0 0 0) b_116 b_117 h)
            exact Turn.rp (.cons rfl (.cons rfl (.cons rfl (.nil _)))) (.c (.s .z) (.c .z (.n _)))
    · refine T.condF rfl c_124 ?_
      refine T.seq ?_
      refine T.seq ?_
      refine T.regionL ?_
      refine sp rfl (OpT.int2 rfl rfl (dl rfl rfl) rfl rfl ?_)
      refine asg rfl rfl rfl rfl rfl ?_
      refine TL'.nil (thenS_normal ?_)
      rcases bif_some h with ⟨c_131, h⟩ | ⟨c_131, h⟩
      · refine T.condT rfl c_131 ?_
        refine T.skip (thenS_normal ?_)
        refine T.by_turn ?_ (syntax_shaped_j3_T K (x0.L.length : Int) x0 (x0.Op == (3 : Int)) (Arr4.mk 0 0 0 0) b_116 b_117 h)
        exact Turn.rp (.cons rfl (.cons rfl (.cons rfl (.cons rfl (.cons rfl (.nil _)))))) (.c (.s .z) (.c .z (.n _)))
      · refine T.condF rfl c_131 ?_
        refine T.regionL ?_
        refine sp rfl (OpT.int2 rfl rfl (dl rfl rfl) rfl rfl ?_)
        refine asg rfl rfl rfl rfl rfl ?_
        refine TL'.nil (thenS_normal ?_)
        refine T.by_turn ?_ (syntax_shaped_j3_T K (x0.L.length : Int) x0 (x0.Op == (4 : Int)) (Arr4.mk 0 0 0 0) b_116 b_117 h)
        exact Turn.rp (.cons rfl (.cons rfl (.cons rfl (.cons rfl (.cons rfl (.nil _)))))) (.c (.s .z) (.c .z (.n _)))

abbrev slices_Equal_int_q (r : Bool) : Exit → St → Prop := retS Try.prog Try.f25 (fun y t => y = (.bool r) ∧ t = [])

abbrev slices_Equal_int_qs111 (r : Bool) : Exit → St → Prop := thenS (fun s' => T Try.prog 26 (Code.at [1, 1, 1] (codeOf Try.f25)) s' ((slices_Equal_int_q r))) ((slices_Equal_int_q r))

abbrev slices_Equal_int_qb0x111 (r : Bool) : Exit → St → Prop := inBlockS 0 ((slices_Equal_int_qs111 r))

theorem slices_Equal_int_l0_T {r : Bool} (K : Nat) : ∀ (k : Nat), ∀ (x0 : List Int) (x1 : List Int) (x12_0_2 : Int) (x13_0_3 : Int) (flx0 : Bool) (flx1 : Bool), slices_Equal_int_l0 K k x0 x1 x12_0_2 x13_0_3 = some r → TL Try.prog 26 (Code.at [1, 1, 0, 1, 0, 0] (codeOf Try.f25)) ⟨[(0, .sl flx0 1 (x0.map (cI .i64))), (1, .sl flx1 1 (x1.map (cI .i64))), (12, .int .i64 x12_0_2), (13, .int .i64 x13_0_3)], []⟩ (slices_Equal_int_qb0x111 r) := by
  intro k
  induction k with
  | zero =>
    intro x0 x1 x12_0_2 x13_0_3 flx0 flx1 h
    cases (show (none : Option Bool) = some r from h)
  | succ k ih =>
    intro x0 x1 x12_0_2 x13_0_3 flx0 flx1 h
    rw [slices_Equal_int_l0] at h
    refine TL.round ?_
    refine T.seq ?_
    refine T.regionL ?_
    refine sp rfl (OpT.int2 rfl rfl (dl rfl rfl) rfl rfl ?_)
    refine TL'.nil (thenS_normal ?_)
    refine T.seq ?_
    rcases bif_some h with ⟨c_110, h⟩ | ⟨c_110, h⟩
    · refine T.condT rfl c_110 ?_
      refine T.skip (thenS_normal ?_)
      refine T.seq ?_
      refine T.block ?_
      refine T.seq ?_
      refine T.regionL ?_
      refine mv rfl rfl rfl rfl rfl ?_
      refine asg rfl rfl rfl rfl rfl ?_
      refine TL'.nil (thenS_normal ?_)
      refine T.seq ?_
      refine DG.start ?_
      refine DG.mv rfl rfl rfl rfl rfl rfl ?_
      refine DG.mv rfl rfl rfl rfl rfl rfl ?_
      obtain ⟨v_116, e_117, h⟩ := bind_some h
      refine DG.step (c := ⟨some 18, .ref [.int .i64 v_116], [(16, .sl flx0 1 (x0.map (cI .i64))), (17, .int .i64 x13_0_3)], [], []⟩) (fun t hm => One.step rfl (.free rfl) (OpT.indexSlM (xs := x0) (f := (cI .i64)) (v := v_116) rfl (dl rfl rfl) Try.underlying34 i3 hm.s0 hm.s1 e_117 rfl)) (Ct.met_of rfl rfl) ?_
      refine DG.step (c := ⟨some 19, .int .i64 v_116, [(18, .ref [.int .i64 v_116])], [], []⟩) (fun t hm => One.step rfl (.free rfl) (OpT.loadRef rfl (dl rfl rfl) Try.underlying3 rfl hm.s0 rfl rfl)) (Ct.met_of rfl rfl) ?_
      refine DG.mv rfl rfl rfl rfl rfl rfl ?_
      refine DG.mv rfl rfl rfl rfl rfl rfl ?_
      obtain ⟨v_118, e_119, h⟩ := bind_some h
      refine DG.step (c := ⟨some 22, .ref [.int .i64 v_118], [(20, .sl flx1 1 (x1.map (cI .i64))), (21, .int .i64 x13_0_3)], [], []⟩) (fun t hm => One.step rfl (.free rfl) (OpT.indexSlM (xs := x1) (f := (cI .i64)) (v := v_118) rfl (dl rfl rfl) Try.underlying34 i3 hm.s0 hm.s1 e_119 rfl)) (Ct.met_of rfl rfl) ?_
      refine DG.step (c := ⟨some 23, .int .i64 v_118, [(22, .ref [.int .i64 v_118])], [], []⟩) (fun t hm => One.step rfl (.free rfl) (OpT.loadRef rfl (dl rfl rfl) Try.underlying3 rfl hm.s0 rfl rfl)) (Ct.met_of rfl rfl) ?_
      refine DG.step (c := ⟨some 24, .bool (v_116 != v_118), [(19, .int .i64 v_116), (23, .int .i64 v_118)], [], []⟩) (fun t hm => One.step rfl (.free rfl) (OpT.int2 rfl rfl (dl rfl rfl) hm.s0 hm.s1 rfl)) (Ct.met_of rfl rfl) ?_
      refine DG.fin (s1 := ⟨[(0, .sl flx0 1 (x0.map (cI .i64))), (1, .sl flx1 1 (x1.map (cI .i64))), (12, .int .i64 x12_0_2), (13, .int .i64 x13_0_3), (24, .bool (v_116 != v_118))], []⟩) (ms := [0, 0, 3, 7, 0, 0, 48, 112, 255]) TryMixed rfl (by kernel_rfl) (by kernel_rfl) (by kernel_rfl) (.cons rfl (.cons rfl (.cons rfl (.cons rfl (.cons rfl (.nil _)))))) rfl (fun u hu => (thenS_normal (T.by_turn hu ?_)))
      rcases bif_some h with ⟨c_120, h⟩ | ⟨c_120, h⟩
      · refine T.condT rfl c_120 ?_
        refine T.seq ?_
        refine T.regionL ?_
        refine asg rfl rfl rfl rfl rfl ?_
        refine TL'.nil (thenS_normal ?_)
        refine T.ret (inBlock_ret (thenS_ret (thenS_ret (inBlock_ret (thenS_ret ?_)))))
        exact Fin.done (.cons _ _ _ _ (.tmp 4 _ rfl) .nil) (by cases h; exact ⟨rfl, rfl⟩)
      · refine T.condF rfl c_120 ?_
        refine T.skip (inBlock_normal (thenS_normal ?_))
        refine T.regionL ?_
        refine sp rfl (OpT.int2 rfl rfl (dl rfl rfl) rfl rfl ?_)
        refine mv rfl rfl rfl rfl rfl ?_
        refine TL'.nil (thenS_normal ?_)
        refine TL.by_turn ?_ (ih x0 x1 x12_0_2 (IntKind.i64.wrap (x13_0_3 + (1 : Int))) flx0 flx1 h)
        exact Turn.rp (.cons rfl (.cons rfl (.cons rfl (.cons rfl (.nil _))))) (.n _)
    · refine T.condF rfl c_110 ?_
      refine T.exit (thenS_exit (thenS_exit (inBlock_exit (thenS_normal ?_))))
      refine T.seq ?_
      refine T.regionL ?_
      refine asg rfl rfl rfl rfl rfl ?_
      refine TL'.nil (thenS_normal ?_)
      refine T.ret ?_
      exact Fin.done (.cons _ _ _ _ (.tmp 4 _ rfl) .nil) (by cases h; exact ⟨rfl, rfl⟩)

theorem slices_Equal_int_T (K : Nat) {x0 : List Int} {x1 : List Int} {flx0 : Bool} {flx1 : Bool} {r : Bool} (h : slices_Equal_int K x0 x1 = some r) : CallR Try.prog 25 [.sl flx0 1 (x0.map (cI .i64)), .sl flx1 1 (x1.map (cI .i64))] [] (.bool r) := by
  refine CallT.intro Try.func25 rfl (Nat.le_of_ble_eq_true rfl) ?_
  show T Try.prog 26 (Code.at [] (codeOf Try.f25)) ⟨paramSlots 0 [.sl flx0 1 (x0.map (cI .i64)), .sl flx1 1 (x1.map (cI .i64))], []⟩ (slices_Equal_int_q r)
  unfold slices_Equal_int at h
  refine T.seq ?_
  refine T.regionL ?_
  refine asg rfl rfl rfl rfl rfl ?_
  refine TL'.nil (thenS_normal ?_)
  refine T.seq ?_
  refine T.seq ?_
  refine T.regionL ?_
  refine mv rfl rfl rfl rfl rfl ?_
  refine sp rfl (OpT.lenSlM (xs := x0) (f := (cI .i64)) rfl (dl rfl rfl) Try.underlying34 rfl ?_)
  refine mv rfl rfl rfl rfl rfl ?_
  refine sp rfl (OpT.lenSlM (xs := x1) (f := (cI .i64)) rfl (dl rfl rfl) Try.underlying34 rfl ?_)
  refine sp rfl (OpT.int2 rfl rfl (dl rfl rfl) rfl rfl ?_)
  refine TL'.nil (thenS_normal ?_)
  rcases bif_some h with ⟨c_109, h⟩ | ⟨c_109, h⟩
  · refine T.condT rfl c_109 ?_
    refine T.seq ?_
    refine T.regionL ?_
    refine asg rfl rfl rfl rfl rfl ?_
    refine TL'.nil (thenS_normal ?_)
    refine T.ret (thenS_ret ?_)
    exact Fin.done (.cons _ _ _ _ (.tmp 4 _ rfl) .nil) (by cases h; exact ⟨rfl, rfl⟩)
  · refine T.condF rfl c_109 ?_
    refine T.skip (thenS_normal ?_)
    refine T.seq ?_
    refine T.seq ?_
    refine T.regionL ?_
    refine mv rfl rfl rfl rfl rfl ?_
    refine sp rfl (OpT.lenSlM (xs := x0) (f := (cI .i64)) rfl (dl rfl rfl) Try.underlying34 rfl ?_)
    refine mv rfl rfl rfl rfl rfl ?_
    refine TL'.nil (thenS_normal ?_)
    refine T.block ?_
    refine T.loop ?_
    refine TL.by_turn ?_ (slices_Equal_int_l0_T K K x0 x1 (x0.length : Int) (0 : Int) flx0 flx1 h)
    exact Turn.rp (.cons rfl (.cons rfl (.cons rfl (.cons rfl (.nil _))))) (.n _)

abbrev syntax_Right_q (r : Bool) : Exit → St → Prop := retS Try.prog Try.f15 (fun y t => y = (.bool r) ∧ t = [])

abbrev syntax_Right_qs11 (r : Bool) : Exit → St → Prop := thenS (fun s' => T Try.prog 56 (Code.at [1, 1] (codeOf Try.f15)) s' ((syntax_Right_q r))) ((syntax_Right_q r))

abbrev syntax_Right_qs1111 (r : Bool) : Exit → St → Prop := thenS (fun s' => T Try.prog 56 (Code.at [1, 1, 1, 1] (codeOf Try.f15)) s' ((syntax_Right_q r))) ((syntax_Right_q r))

abbrev syntax_Right_qb0x1111 (r : Bool) : Exit → St → Prop := inBlockS 0 ((syntax_Right_qs1111 r))

abbrev syntax_Right_ql111010 (r : Bool) : Exit → St → Prop := thenS (fun s' => TL Try.prog 56 (Code.at [1, 1, 1, 0, 1, 0, 0] (codeOf Try.f15)) s' ((syntax_Right_qb0x1111 r))) ((syntax_Right_qb0x1111 r))

abbrev syntax_Right_qs1110100111 (r : Bool) : Exit → St → Prop := thenS (fun s' => T Try.prog 56 (Code.at [1, 1, 1, 0, 1, 0, 0, 1, 1, 1] (codeOf Try.f15)) s' ((syntax_Right_ql111010 r))) ((syntax_Right_ql111010 r))

abbrev syntax_Right_qb1_0x1110100111 (r : Bool) : Exit → St → Prop := inBlockS 1 ((syntax_Right_qs1110100111 r))

abbrev syntax_Right_qs1110100110011 (r : Bool) : Exit → St → Prop := thenS (fun s' => T Try.prog 56 (Code.at [1, 1, 1, 0, 1, 0, 0, 1, 1, 0, 0, 1, 1] (codeOf Try.f15)) s' ((syntax_Right_qb1_0x1110100111 r))) ((syntax_Right_qb1_0x1110100111 r))

theorem syntax_Right_j0_T {r : Bool} (K : Nat) (h : syntax_Right_j0 K = some r) : T Try.prog 56 (Code.at [1, 0, 1, 0] (codeOf Try.f15)) ⟨[], []⟩ (syntax_Right_qs11 r) := by
  unfold syntax_Right_j0 at h
  refine T.seq ?_
  refine T.regionL ?_
  refine asg rfl rfl rfl rfl rfl ?_
  refine TL'.nil (thenS_normal ?_)
  refine T.ret (thenS_ret ?_)
  exact Fin.done (.cons _ _ _ _ (.tmp 2 _ rfl) .nil) (by cases h; exact ⟨rfl, rfl⟩)

theorem syntax_Right_j2_T {r : Bool} (K : Nat) (h : syntax_Right_j2 K = some r) : T Try.prog 56 (Code.at [1, 1, 1, 0, 1, 0, 0, 1, 1, 0, 0, 1, 0, 1, 0] (codeOf Try.f15)) ⟨[], []⟩ (syntax_Right_qs1110100110011 r) := by
  unfold syntax_Right_j2 at h
  refine T.seq ?_
  refine T.regionL ?_
  refine asg rfl rfl rfl rfl rfl ?_
  refine TL'.nil (thenS_normal ?_)
  refine T.ret (thenS_ret (inBlock_ret (thenS_ret (thenS_ret (inBlock_ret (thenS_ret ?_))))))
  exact Fin.done (.cons _ _ _ _ (.tmp 2 _ rfl) .nil) (by cases h; exact ⟨rfl, rfl⟩)

theorem syntax_Right_l1_T {r : Bool} (K : Nat) : ∀ (k : Nat), ∀ (x0 : List api_Node) (x16_1_2 : Int) (x17_1_3 : Int) (y3_1_0 : List Int) (flx0 : Bool) (w3_1 : Value), syntax_Right_l1 K k x0 x16_1_2 x17_1_3 y3_1_0 = some r → TL Try.prog 56 (Code.at [1, 1, 1, 0, 1, 0, 0] (codeOf Try.f15)) ⟨[(3, .c (.ex w3_1)), (15, .sl flx0 9 (x0.map c_api_Node)), (16, .int .i64 x16_1_2), (17, .int .i64 x17_1_3)], [.arrX w3_1 3 1 0 (y3_1_0.map (cI .i64))]⟩ (syntax_Right_qb0x1111 r) := by
  intro k
  induction k with
  | zero =>
    intro x0 x16_1_2 x17_1_3 y3_1_0 flx0 w3_1 h
    cases (show (none : Option Bool) = some r from h)
  | succ k ih =>
    intro x0 x16_1_2 x17_1_3 y3_1_0 flx0 w3_1 h
    rw [syntax_Right_l1] at h
    refine TL.round ?_
    refine T.seq ?_
    refine T.regionL ?_
    refine sp rfl (OpT.int2 rfl rfl (dl rfl rfl) rfl rfl ?_)
    refine TL'.nil (thenS_normal ?_)
    refine T.seq ?_
    rcases bif_some h with ⟨c_280, h⟩ | ⟨c_280, h⟩
    · refine T.condT rfl c_280 ?_
      refine T.skip (thenS_normal ?_)
      refine T.seq ?_
      refine T.block ?_
      refine T.seq ?_
      refine T.regionL ?_
      refine mv rfl rfl rfl rfl rfl ?_
      obtain ⟨v_281, e_282, h⟩ := bind_some h
      refine sp rfl (OpT.indexSlM (xs := x0) (f := c_api_Node) (v := v_281) rfl (dl rfl rfl) Try.underlying23 i36 rfl rfl e_282 ?_)
      refine sp rfl (OpT.loadRefAgg rfl (dl rfl rfl) Try.underlying36 rfl i36 rfl (Nat.le_of_ble_eq_true rfl) ?_)
      refine sp rfl (OpT.alloc' rfl (dl rfl rfl) i36 rfl (fun b_283 => ?_))
      refine asg rfl rfl rfl rfl rfl ?_
      refine sp rfl (OpT.storeAggTo (i := 0) (cells' := [.d (.int .u8 v_281.Op), .d (.int .u64 v_281.S.a0), .d (.int .u64 v_281.S.a1), .d (.int .u64 v_281.S.a2), .d (.int .u64 v_281.S.a3), .d (.sl false 1 (v_281.L.map (cI .i64))), .d (.int .i64 v_281.Lo), .d (.int .i64 v_281.Hi), .d (.str v_281.Name)]) rfl rfl i36 rfl rfl rfl rfl (Nat.le_of_ble_eq_true rfl) rfl ?_)
      refine TL'.nil (thenS_normal ?_)
      refine T.seq ?_
      refine T.seq ?_
      refine T.regionL ?_
      refine sp rfl (OpT.loadBoxAgg (i := 0) (l := [.int .u8 v_281.Op, .int .u64 v_281.S.a0, .int .u64 v_281.S.a1, .int .u64 v_281.S.a2, .int .u64 v_281.S.a3, .sl false 1 (v_281.L.map (cI .i64)), .int .i64 v_281.Lo, .int .i64 v_281.Hi, .str v_281.Name]) rfl (dl rfl rfl) Try.underlying36 rfl i36 rfl rfl rfl rfl ?_)
      obtain ⟨v_284, e_285, h⟩ := bind_some h
      refine sp rfl (OpT.callPA rfl (dl rfl rfl) Try.func24 rfl rfl (Args.cons rfl Args.nil) (CallR.nil (syntax_shaped_T K e_285)) ?_)
      refine sp rfl (OpT.not rfl (dl rfl rfl) rfl ?_)
      refine mv rfl rfl rfl rfl rfl ?_
      rcases bif_some h with ⟨c_286, h⟩ | ⟨c_286, h⟩
      · refine TL'.passU (.off _ _ _ _ rfl rfl rfl c_286) (dl rfl rfl) ?_
        refine TL'.passU (.off _ _ _ _ rfl rfl rfl c_286) (dl rfl rfl) ?_
        refine TL'.passU (.off _ _ _ _ rfl rfl rfl c_286) (dl rfl rfl) ?_
        refine TL'.passU (.off _ _ _ _ rfl rfl rfl c_286) (dl rfl rfl) ?_
        refine TL'.passU (.off _ _ _ _ rfl rfl rfl c_286) (dl rfl rfl) ?_
        refine TL'.passU (.off _ _ _ _ rfl rfl rfl c_286) (dl rfl rfl) ?_
        refine sp rfl (OpT.pickT rfl (dl rfl rfl) rfl c_286 rfl ?_)
        refine TL'.nil (thenS_normal ?_)
        refine T.condT rfl rfl ?_
        refine T.by_turn ?_ (syntax_Right_j2_T K h)
        exact Turn.rp (.nil _) (.n _)
      · refine TL'.step (.on rfl rfl rfl c_286) (OpT.move rfl (dl rfl rfl) rfl ?_)
        refine TL'.step (.on rfl rfl rfl c_286) (OpT.lenXM (i := 1) (xs := y3_1_0) (f := (cI .i64)) rfl (dl rfl rfl) Try.underlying34 rfl rfl ?_)
        refine TL'.step (.on rfl rfl rfl c_286) (OpT.fieldPtr rfl (dl rfl rfl) Try.underlying36 rfl i34 (by decide) rfl ?_)
        refine TL'.step (.on rfl rfl rfl c_286) (OpT.loadBox (i := 0) rfl (dl rfl rfl) Try.underlying34 rfl rfl rfl rfl ?_)
        refine TL'.step (.on rfl rfl rfl c_286) (OpT.lenSlM (xs := v_281.L) (f := (cI .i64)) rfl (dl rfl rfl) Try.underlying34 rfl ?_)
        refine TL'.step (.on rfl rfl rfl c_286) (OpT.int2 rfl rfl (dl rfl rfl) rfl rfl ?_)
        refine sp rfl (OpT.pickF rfl (dl rfl rfl) rfl c_286 rfl ?_)
        refine TL'.nil (thenS_normal ?_)
        rcases bif_some h with ⟨c_287, h⟩ | ⟨c_287, h⟩
        · refine T.condT rfl c_287 ?_
          refine T.by_turn ?_ (syntax_Right_j2_T K h)
          exact Turn.rp (.nil _) (.n _)
        · refine T.condF rfl c_287 ?_
          refine T.skip (thenS_normal ?_)
          refine T.seq ?_
          refine T.regionL ?_
          refine mv rfl rfl rfl rfl rfl ?_
          refine sp rfl (OpT.lenXM (i := 1) (xs := y3_1_0) (f := (cI .i64)) rfl (dl rfl rfl) Try.underlying34 rfl rfl ?_)
          refine sp rfl (OpT.fieldPtr rfl (dl rfl rfl) Try.underlying36 rfl i34 (by decide) rfl ?_)
          refine sp rfl (OpT.loadBox (i := 0) rfl (dl rfl rfl) Try.underlying34 rfl rfl rfl rfl ?_)
          refine sp rfl (OpT.lenSlM (xs := v_281.L) (f := (cI .i64)) rfl (dl rfl rfl) Try.underlying34 rfl ?_)
          refine sp rfl (OpT.int2 rfl rfl (dl rfl rfl) rfl rfl ?_)
          refine asg rfl rfl rfl rfl rfl ?_
          refine TL'.nil (thenS_normal ?_)
          refine T.seq ?_
          refine T.seq ?_
          refine DG.start ?_
          refine DG.mv rfl rfl rfl rfl rfl rfl ?_
          refine DG.mv rfl rfl rfl rfl rfl rfl ?_
          obtain ⟨g_292, h⟩ := ck_some h
          refine DG.step (c := ⟨some 41, .sub w3_1 1 (Int.toNat (IntKind.i64.wrap ((y3_1_0.length : Int) - (v_281.L.length : Int)))), [(39, .c (.ex w3_1)), (40, .int .i64 (IntKind.i64.wrap ((y3_1_0.length : Int) - (v_281.L.length : Int))))], [(1, .arrX w3_1 3 1 0 (y3_1_0.map (cI .i64)))], []⟩) (fun t hm => One.step rfl (.free rfl) (OpT.sliceSub (i := 1) (xs := y3_1_0) (f := (cI .i64)) (l := (Int.toNat (IntKind.i64.wrap ((y3_1_0.length : Int) - (v_281.L.length : Int))))) rfl (dl rfl rfl) Try.underlying34 i3 hm.s0 hm.o0 (.some _ _ _ _ hm.s1 g_292.1) g_292.2 rfl)) (Ct.met_of rfl rfl) ?_
          refine DG.step (c := ⟨some 42, .ptr b_283 (0 + 5), [(5, .ptr b_283 0)], [], []⟩) (fun t hm => One.step rfl (.free rfl) (OpT.fieldPtr rfl (dl rfl rfl) Try.underlying36 rfl i34 (by decide) hm.s0 rfl)) (Ct.met_of rfl rfl) ?_
          refine DG.step (c := ⟨some 43, .sl false 1 (v_281.L.map (cI .i64)), [(42, .ptr b_283 (0 + 5))], [(0, .box b_283 36 [.d (.int .u8 v_281.Op), .d (.int .u64 v_281.S.a0), .d (.int .u64 v_281.S.a1), .d (.int .u64 v_281.S.a2), .d (.int .u64 v_281.S.a3), .d (.sl false 1 (v_281.L.map (cI .i64))), .d (.int .i64 v_281.Lo), .d (.int .i64 v_281.Hi), .d (.str v_281.Name)])], []⟩) (fun t hm => One.step rfl (.free rfl) (OpT.loadBox (i := 0) rfl (dl rfl rfl) Try.underlying34 rfl hm.s0 hm.o0 rfl rfl)) (Ct.met_of rfl rfl) ?_
          obtain ⟨v_293, e_294, h⟩ := bind_some h
          refine DG.step (c := ⟨some 44, .bool v_293, [(41, .sub w3_1 1 (Int.toNat (IntKind.i64.wrap ((y3_1_0.length : Int) - (v_281.L.length : Int))))), (43, .sl false 1 (v_281.L.map (cI .i64)))], [(1, .arrX w3_1 3 1 0 (y3_1_0.map (cI .i64)))], []⟩) (fun t hm => One.step rfl (.free rfl) (OpT.callLent (i := 1) rfl (dl rfl rfl) Try.func25 rfl rfl hm.o0 (ArgsB.lentSub (xs := y3_1_0) (f := (cI .i64)) hm.s0 (ArgsB.cons hm.s1 ArgsB.nil)) (CallR.nil (slices_Equal_int_T K (flx0 := false) (flx1 := false) e_294)) (.ex _) rfl)) (Ct.met_of rfl rfl) ?_
          refine DG.step (c := ⟨some 45, .bool (!v_293), [(44, .bool v_293)], [], []⟩) (fun t hm => One.step rfl (.free rfl) (OpT.not rfl (dl rfl rfl) hm.s0 rfl)) (Ct.met_of rfl rfl) ?_
          refine DG.fin (s1 := ⟨[(3, .c (.ex w3_1)), (4, .int .i64 x17_1_3), (6, .int .i64 (IntKind.i64.wrap ((y3_1_0.length : Int) - (v_281.L.length : Int)))), (15, .sl flx0 9 (x0.map c_api_Node)), (16, .int .i64 x16_1_2), (17, .int .i64 x17_1_3), (26, .c (.ex w3_1)), (27, .int .i64 (y3_1_0.length : Int)), (28, .ptr b_283 (0 + 5)), (29, .sl false 1 (v_281.L.map (cI .i64))), (30, .int .i64 (v_281.L.length : Int)), (31, .bool (decide ((y3_1_0.length : Int) < (v_281.L.length : Int)))), (45, .bool (!v_293))], [.box b_283 36 [.d (.int .u8 v_281.Op), .d (.int .u64 v_281.S.a0), .d (.int .u64 v_281.S.a1), .d (.int .u64 v_281.S.a2), .d (.int .u64 v_281.S.a3), .d (.sl false 1 (v_281.L.map (cI .i64))), .d (.int .i64 v_281.Lo), .d (.int .i64 v_281.Hi), .d (.str v_281.Name)], .arrX w3_1 3 1 0 (y3_1_0.map (cI .i64))]⟩) (ms := [0, 0, 3, 0, 8, 31, 63]) TryMixed rfl (by kernel_rfl) (by kernel_rfl) (by kernel_rfl) (.cons rfl (.cons rfl (.cons rfl (.cons rfl (.cons rfl (.cons rfl (.cons rfl (.cons rfl (.cons rfl (.cons rfl (.cons rfl (.cons rfl (.cons rfl (.nil _)))))))))))))) rfl (fun u hu => (thenS_normal (T.by_turn hu ?_)))
          rcases bif_some h with ⟨c_295, h⟩ | ⟨c_295, h⟩
          · refine T.condT rfl c_295 ?_
            refine T.seq ?_
            refine T.regionL ?_
            refine asg rfl rfl rfl rfl rfl ?_
            refine TL'.nil (thenS_normal ?_)
            refine T.ret (thenS_ret (inBlock_ret (thenS_ret (thenS_ret (inBlock_ret (thenS_ret ?_))))))
            exact Fin.done (.cons _ _ _ _ (.tmp 2 _ rfl) .nil) (by cases h; exact ⟨rfl, rfl⟩)
          · refine T.condF rfl c_295 ?_
            refine T.skip (thenS_normal ?_)
            refine T.regionL ?_
            refine mv rfl rfl rfl rfl rfl ?_
            refine mv rfl rfl rfl rfl rfl ?_
            refine sp rfl (OpT.sliceX (i := 1) (xs := y3_1_0) (f := (cI .i64)) (h := (Int.toNat (IntKind.i64.wrap ((y3_1_0.length : Int) - (v_281.L.length : Int))))) rfl (dl rfl rfl) Try.underlying34 i3 rfl rfl (.some _ _ _ _ rfl g_292.1) g_292.2 (fun w_296 => ?_))
            refine mv rfl rfl rfl rfl rfl ?_
            refine sp rfl (OpT.buildSlice (elems := ([x17_1_3] : List Int).map (cI .i64)) rfl (dl rfl rfl) Try.underlying34 i3 (by decide) rfl (all1 rfl) rfl rfl rfl (lenAll rfl) (by decide) ?_)
            obtain ⟨g_298, h⟩ := ck_some h
            refine sp rfl (OpT.appendXM (i := 1) (xs := (y3_1_0.take (Int.toNat (IntKind.i64.wrap ((y3_1_0.length : Int) - (v_281.L.length : Int)))))) (ys := [x17_1_3]) (f := (cI .i64)) rfl (dl rfl rfl) Try.underlying34 i3 rfl rfl rfl rfl g_298 (fun w_297 => ?_))
            refine asg rfl rfl rfl rfl rfl ?_
            refine TL'.nil (inBlock_normal (thenS_normal ?_))
            refine T.regionL ?_
            refine sp rfl (OpT.int2 rfl rfl (dl rfl rfl) rfl rfl ?_)
            refine mv rfl rfl rfl rfl rfl ?_
            refine TL'.nil (thenS_normal ?_)
            refine TL.by_turn ?_ (ih x0 x16_1_2 (IntKind.i64.wrap (x17_1_3 + (1 : Int))) ((y3_1_0.take (Int.toNat (IntKind.i64.wrap ((y3_1_0.length : Int) - (v_281.L.length : Int))))) ++ [x17_1_3]) flx0 w_297 h)
            exact Turn.rp (.cons rfl (.cons rfl (.cons rfl (.cons rfl (.nil _))))) (.c (.s .z) (.n _))
    · refine T.condF rfl c_280 ?_
      refine T.exit (thenS_exit (thenS_exit (inBlock_exit (thenS_normal ?_))))
      refine T.seq ?_
      refine T.regionL ?_
      refine mv rfl rfl rfl rfl rfl ?_
      refine sp rfl (OpT.lenXM (i := 0) (xs := y3_1_0) (f := (cI .i64)) rfl (dl rfl rfl) Try.underlying34 rfl rfl ?_)
      refine sp rfl (OpT.int2 rfl rfl (dl rfl rfl) rfl rfl ?_)
      refine asg rfl rfl rfl rfl rfl ?_
      refine TL'.nil (thenS_normal ?_)
      refine T.ret ?_
      exact Fin.done (.cons _ _ _ _ (.tmp 2 _ rfl) .nil) (by cases h; exact ⟨rfl, rfl⟩)

theorem syntax_Right_T (K : Nat) {x0 : List api_Node} {flx0 : Bool} {r : Bool} (h : syntax_Right K x0 = some r) : CallR Try.prog 15 [.sl flx0 9 (x0.map c_api_Node)] [] (.bool r) := by
  refine CallT.intro Try.func15 rfl (Nat.le_of_ble_eq_true rfl) ?_
  show T Try.prog 56 (Code.at [] (codeOf Try.f15)) ⟨paramSlots 0 [.sl flx0 9 (x0.map c_api_Node)], []⟩ (syntax_Right_q r)
  unfold syntax_Right at h
  refine T.seq ?_
  refine T.regionL ?_
  refine asg rfl rfl rfl rfl rfl ?_
  refine TL'.nil (thenS_normal ?_)
  refine T.seq ?_
  refine T.seq ?_
  refine T.regionL ?_
  refine mv rfl rfl rfl rfl rfl ?_
  refine sp rfl (OpT.lenSlM (xs := x0) (f := c_api_Node) rfl (dl rfl rfl) Try.underlying23 rfl ?_)
  refine sp rfl (OpT.int2 rfl rfl (dl rfl rfl) rfl rfl ?_)
  refine mv rfl rfl rfl rfl rfl ?_
  rcases bif_some h with ⟨c_278, h⟩ | ⟨c_278, h⟩
  · refine TL'.passU (.off _ _ _ _ rfl rfl rfl c_278) (dl rfl rfl) ?_
    refine TL'.passU (.off _ _ _ _ rfl rfl rfl c_278) (dl rfl rfl) ?_
    refine TL'.passU (.off _ _ _ _ rfl rfl rfl c_278) (dl rfl rfl) ?_
    refine sp rfl (OpT.pickT rfl (dl rfl rfl) rfl c_278 rfl ?_)
    refine TL'.nil (thenS_normal ?_)
    refine T.condT rfl rfl ?_
    refine T.by_turn ?_ (syntax_Right_j0_T K h)
    exact Turn.rp (.nil _) (.n _)
  · refine TL'.step (.on rfl rfl rfl c_278) (OpT.move rfl (dl rfl rfl) rfl ?_)
    refine TL'.step (.on rfl rfl rfl c_278) (OpT.lenSlM (xs := x0) (f := c_api_Node) rfl (dl rfl rfl) Try.underlying23 rfl ?_)
    refine TL'.step (.on rfl rfl rfl c_278) (OpT.int2 rfl rfl (dl rfl rfl) rfl rfl ?_)
    refine sp rfl (OpT.pickF rfl (dl rfl rfl) rfl c_278 rfl ?_)
    refine TL'.nil (thenS_normal ?_)
    rcases bif_some h with ⟨c_279, h⟩ | ⟨c_279, h⟩
    · refine T.condT rfl c_279 ?_
      refine T.by_turn ?_ (syntax_Right_j0_T K h)
      exact Turn.rp (.nil _) (.n _)
    · refine T.condF rfl c_279 ?_
      refine T.skip (thenS_normal ?_)
      refine T.seq ?_
      refine T.regionL ?_
      refine asg rfl rfl rfl rfl rfl ?_
      refine TL'.nil (thenS_normal ?_)
      refine T.seq ?_
      refine T.seq ?_
      refine T.regionL ?_
      refine mv rfl rfl rfl rfl rfl ?_
      refine sp rfl (OpT.lenSlM (xs := x0) (f := c_api_Node) rfl (dl rfl rfl) Try.underlying23 rfl ?_)
      refine mv rfl rfl rfl rfl rfl ?_
      refine TL'.nil (thenS_normal ?_)
      refine T.block ?_
      refine T.loop ?_
      refine TL.by_turn (Turn.nilX 3 1) ?_
      refine TL.by_turn ?_ (syntax_Right_l1_T K K x0 (x0.length : Int) (0 : Int) [] flx0 (nilv 2) h)
      exact Turn.rp (.cons rfl (.cons rfl (.cons rfl (.cons rfl (.nil _))))) (.c .z (.n _))

abbrev raddleref04_walk_q (r : (List Int) × Bool) : Exit → St → Prop := retS Try.prog Try.f27 (fun y t => ∃ γ : Nat → Value, y = (.tup [.c (.ex (γ 0)), .bool r.2]) ∧ t = [.arrA (γ 0) 3 1 (r.1.map (cI .i64))])

abbrev raddleref04_walk_qs111 (r : (List Int) × Bool) : Exit → St → Prop := thenS (fun s' => T Try.prog 59 (Code.at [1, 1, 1] (codeOf Try.f27)) s' ((raddleref04_walk_q r))) ((raddleref04_walk_q r))

abbrev raddleref04_walk_qb0x111 (r : (List Int) × Bool) : Exit → St → Prop := inBlockS 0 ((raddleref04_walk_qs111 r))

abbrev raddleref04_walk_ql11010 (r : (List Int) × Bool) : Exit → St → Prop := thenS (fun s' => TL Try.prog 59 (Code.at [1, 1, 0, 1, 0, 0] (codeOf Try.f27)) s' ((raddleref04_walk_qb0x111 r))) ((raddleref04_walk_qb0x111 r))

abbrev raddleref04_walk_qs11010011 (r : (List Int) × Bool) : Exit → St → Prop := thenS (fun s' => T Try.prog 59 (Code.at [1, 1, 0, 1, 0, 0, 1, 1] (codeOf Try.f27)) s' ((raddleref04_walk_ql11010 r))) ((raddleref04_walk_ql11010 r))

abbrev raddleref04_walk_qb1_0x11010011 (r : (List Int) × Bool) : Exit → St → Prop := inBlockS 1 ((raddleref04_walk_qs11010011 r))

abbrev raddleref04_walk_qs11010010011 (r : (List Int) × Bool) : Exit → St → Prop := thenS (fun s' => T Try.prog 59 (Code.at [1, 1, 0, 1, 0, 0, 1, 0, 0, 1, 1] (codeOf Try.f27)) s' ((raddleref04_walk_qb1_0x11010011 r))) ((raddleref04_walk_qb1_0x11010011 r))

theorem raddleref04_walk_j1_T {r : (List Int) × Bool} (K : Nat) (rec_raddleref04_walk : (List api_Node) → Int → (List Int) → Option ((List Int) × Bool)) (hrec_raddleref04_walk : raddleref04_walk_S rec_raddleref04_walk) (y2_1_0 : List Int) (w2_1 : Value) (h : raddleref04_walk_j1 K rec_raddleref04_walk y2_1_0 = some r) : T Try.prog 59 (Code.at [1, 1, 0, 1, 0, 0, 1, 0, 0, 1, 0, 1, 0] (codeOf Try.f27)) ⟨[(2, .c (.ex w2_1))], [.arrA w2_1 3 1 (y2_1_0.map (cI .i64))]⟩ (raddleref04_walk_qs11010010011 r) := by
  unfold raddleref04_walk_j1 at h
  refine T.seq ?_
  refine T.regionL ?_
  refine mv rfl rfl rfl rfl rfl ?_
  refine asg rfl rfl rfl rfl rfl ?_
  refine asg rfl rfl rfl rfl rfl ?_
  refine TL'.nil (thenS_normal ?_)
  refine T.ret (thenS_ret (inBlock_ret (thenS_ret (thenS_ret (inBlock_ret (thenS_ret ?_))))))
  exact Fin.doneK (.cons _ _ _ _ (.tmp 6 _ rfl) (.cons _ _ _ _ (.tmp 7 _ rfl) .nil)) (.cons 0 rfl (.nil _)) (by cases h; exact ⟨gl [w2_1], rfl, rfl⟩)

theorem raddleref04_walk_l0_T {r : (List Int) × Bool} (K : Nat) (rec_raddleref04_walk : (List api_Node) → Int → (List Int) → Option ((List Int) × Bool)) (hrec_raddleref04_walk : raddleref04_walk_S rec_raddleref04_walk) : ∀ (k : Nat), ∀ (x0 : List api_Node) (x1 : Int) (x8_0_3 : Int) (y2_0_2 : List Int) (flx0 : Bool) (w2_0 : Value), raddleref04_walk_l0 K rec_raddleref04_walk k x0 x1 x8_0_3 y2_0_2 = some r → TL Try.prog 59 (Code.at [1, 1, 0, 1, 0, 0] (codeOf Try.f27)) ⟨[(0, .sl flx0 9 (x0.map c_api_Node)), (1, .int .i64 x1), (2, .c (.ex w2_0)), (8, .int .i64 x8_0_3)], [.arrA w2_0 3 1 (y2_0_2.map (cI .i64))]⟩ (raddleref04_walk_qb0x111 r) := by
  intro k
  induction k with
  | zero =>
    intro x0 x1 x8_0_3 y2_0_2 flx0 w2_0 h
    cases (show (none : Option ((List Int) × Bool)) = some r from h)
  | succ k ih =>
    intro x0 x1 x8_0_3 y2_0_2 flx0 w2_0 h
    rw [raddleref04_walk_l0] at h
    refine TL.round ?_
    refine T.seq ?_
    refine T.seq ?_
    refine T.regionL ?_
    refine mv rfl rfl rfl rfl rfl ?_
    refine mv rfl rfl rfl rfl rfl ?_
    refine mv rfl rfl rfl rfl rfl ?_
    obtain ⟨v_202, e_203, h⟩ := bind_some h
    refine sp rfl (OpT.indexSlM (xs := x0) (f := c_api_Node) (v := v_202) rfl (dl rfl rfl) Try.underlying23 i36 rfl rfl e_203 ?_)
    refine sp rfl (OpT.fieldRef rfl (dl rfl rfl) Try.underlying36 rfl i34 (by decide) rfl ?_)
    refine sp rfl (OpT.loadRef rfl (dl rfl rfl) Try.underlying34 rfl rfl rfl ?_)
    refine sp rfl (OpT.lenSlM (xs := v_202.L) (f := (cI .i64)) rfl (dl rfl rfl) Try.underlying34 rfl ?_)
    refine sp rfl (OpT.int2 rfl rfl (dl rfl rfl) rfl rfl ?_)
    refine TL'.nil (thenS_normal ?_)
    rcases bif_some h with ⟨c_204, h⟩ | ⟨c_204, h⟩
    · refine T.condT rfl c_204 ?_
      refine T.skip (thenS_normal ?_)
      refine T.seq ?_
      refine T.block ?_
      refine T.seq ?_
      refine T.regionL ?_
      refine mv rfl rfl rfl rfl rfl ?_
      refine mv rfl rfl rfl rfl rfl ?_
      refine sp rfl (OpT.indexSlM (xs := x0) (f := c_api_Node) (v := v_202) rfl (dl rfl rfl) Try.underlying23 i36 rfl rfl e_203 ?_)
      refine sp rfl (OpT.fieldRef rfl (dl rfl rfl) Try.underlying36 rfl i34 (by decide) rfl ?_)
      refine sp rfl (OpT.loadRef rfl (dl rfl rfl) Try.underlying34 rfl rfl rfl ?_)
      refine mv rfl rfl rfl rfl rfl ?_
      obtain ⟨v_205, e_206, h⟩ := bind_some h
      refine sp rfl (OpT.indexSlM (xs := v_202.L) (f := (cI .i64)) (v := v_205) rfl (dl rfl rfl) Try.underlying34 i3 rfl rfl e_206 ?_)
      refine sp rfl (OpT.loadRef rfl (dl rfl rfl) Try.underlying3 rfl rfl rfl ?_)
      refine asg rfl rfl rfl rfl rfl ?_
      refine TL'.nil (thenS_normal ?_)
      refine T.seq ?_
      refine T.seq ?_
      refine T.regionL ?_
      refine mv rfl rfl rfl rfl rfl ?_
      refine sp rfl (OpT.int2 rfl rfl (dl rfl rfl) rfl rfl ?_)
      refine mv rfl rfl rfl rfl rfl ?_
      rcases bif_some h with ⟨c_207, h⟩ | ⟨c_207, h⟩
      · refine TL'.passU (.off _ _ _ _ rfl rfl rfl c_207) (dl rfl rfl) ?_
        refine TL'.passU (.off _ _ _ _ rfl rfl rfl c_207) (dl rfl rfl) ?_
        refine TL'.passU (.off _ _ _ _ rfl rfl rfl c_207) (dl rfl rfl) ?_
        refine sp rfl (OpT.pickT rfl (dl rfl rfl) rfl c_207 rfl ?_)
        refine TL'.nil (thenS_normal ?_)
        refine T.condT rfl rfl ?_
        refine T.by_turn ?_ (raddleref04_walk_j1_T K rec_raddleref04_walk hrec_raddleref04_walk y2_0_2 w2_0 h)
        exact Turn.rp (.cons rfl (.nil _)) (.c .z (.n _))
      · refine TL'.step (.on rfl rfl rfl c_207) (OpT.move rfl (dl rfl rfl) rfl ?_)
        refine TL'.step (.on rfl rfl rfl c_207) (OpT.move rfl (dl rfl rfl) rfl ?_)
        refine TL'.step (.on rfl rfl rfl c_207) (OpT.int2 rfl rfl (dl rfl rfl) rfl rfl ?_)
        refine sp rfl (OpT.pickF rfl (dl rfl rfl) rfl c_207 rfl ?_)
        refine TL'.nil (thenS_normal ?_)
        rcases bif_some h with ⟨c_208, h⟩ | ⟨c_208, h⟩
        · refine T.condT rfl c_208 ?_
          refine T.by_turn ?_ (raddleref04_walk_j1_T K rec_raddleref04_walk hrec_raddleref04_walk y2_0_2 w2_0 h)
          exact Turn.rp (.cons rfl (.nil _)) (.c .z (.n _))
        · refine T.condF rfl c_208 ?_
          refine T.skip (thenS_normal ?_)
          refine T.seq ?_
          refine T.regionL ?_
          refine mv rfl rfl rfl rfl rfl ?_
          refine mv rfl rfl rfl rfl rfl ?_
          refine mv rfl rfl rfl rfl rfl ?_
          obtain ⟨v_209, e_210, h⟩ := bind_some h
          refine sp rfl (OpT.callG (is := [0]) (ph := []) rfl (dl rfl rfl) Try.func27 rfl rfl (Args.cons rfl (Args.cons rfl (Args.cons rfl Args.nil))) (hrec_raddleref04_walk x0 v_205 y2_0_2 flx0 w2_0 _ e_210) (.cons rfl rfl (.nil)) (fun _ => rfl) (fun γ_211 => ?_))
          refine nm (.c (.n)) ?_
          refine mv rfl rfl rfl rfl rfl ?_
          refine sp rfl (OpT.extract rfl (dl rfl rfl) rfl rfl ?_)
          refine sp rfl (OpT.extract rfl (dl rfl rfl) rfl rfl ?_)
          refine asg rfl rfl rfl rfl rfl ?_
          refine asg rfl rfl rfl rfl rfl ?_
          refine TL'.nil (thenS_normal ?_)
          refine T.seq ?_
          refine T.seq ?_
          refine T.regionL ?_
          refine mv rfl rfl rfl rfl rfl ?_
          refine sp rfl (OpT.not rfl (dl rfl rfl) rfl ?_)
          refine TL'.nil (thenS_normal ?_)
          rcases bif_some h with ⟨c_212, h⟩ | ⟨c_212, h⟩
          · refine T.condT rfl c_212 ?_
            refine T.seq ?_
            refine T.regionL ?_
            refine mv rfl rfl rfl rfl rfl ?_
            refine asg rfl rfl rfl rfl rfl ?_
            refine asg rfl rfl rfl rfl rfl ?_
            refine TL'.nil (thenS_normal ?_)
            refine T.ret (thenS_ret (inBlock_ret (thenS_ret (thenS_ret (inBlock_ret (thenS_ret ?_))))))
            exact Fin.doneK (.cons _ _ _ _ (.tmp 6 _ rfl) (.cons _ _ _ _ (.tmp 7 _ rfl) .nil)) (.cons 0 rfl (.nil _)) (by cases h; exact ⟨gl [γ_211 0], rfl, rfl⟩)
          · refine T.condF rfl c_212 ?_
            refine T.skip (thenS_normal ?_)
            refine T.regionL ?_
            refine mv rfl rfl rfl rfl rfl ?_
            refine asg rfl rfl rfl rfl rfl ?_
            refine TL'.nil (inBlock_normal (thenS_normal ?_))
            refine T.regionL ?_
            refine mv rfl rfl rfl rfl rfl ?_
            refine sp rfl (OpT.int2 rfl rfl (dl rfl rfl) rfl rfl ?_)
            refine asg rfl rfl rfl rfl rfl ?_
            refine TL'.nil (thenS_normal ?_)
            refine TL.by_turn ?_ (ih x0 x1 (IntKind.i64.wrap (x8_0_3 + (1 : Int))) v_209.1 flx0 (γ_211 0) h)
            exact Turn.rp (.cons rfl (.cons rfl (.cons rfl (.cons rfl (.nil _))))) (.c .z (.n _))
    · refine T.condF rfl c_204 ?_
      refine T.exit (thenS_exit (thenS_exit (inBlock_exit (thenS_normal ?_))))
      refine T.seq ?_
      refine T.regionL ?_
      refine mv rfl rfl rfl rfl rfl ?_
      refine mv rfl rfl rfl rfl rfl ?_
      refine sp rfl (OpT.buildSlice (elems := ([x1] : List Int).map (cI .i64)) rfl (dl rfl rfl) Try.underlying34 i3 (by decide) rfl (all1 rfl) rfl rfl rfl (lenAll rfl) (by decide) ?_)
      obtain ⟨g_214, h⟩ := ck_some h
      refine sp rfl (OpT.appendAM (i := 0) (xs := y2_0_2) (ys := [x1]) (f := (cI .i64)) rfl (dl rfl rfl) Try.underlying34 i3 rfl rfl rfl rfl g_214 (fun w_213 => ?_))
      refine asg rfl rfl rfl rfl rfl ?_
      refine asg rfl rfl rfl rfl rfl ?_
      refine TL'.nil (thenS_normal ?_)
      refine T.ret ?_
      exact Fin.doneK (.cons _ _ _ _ (.tmp 6 _ rfl) (.cons _ _ _ _ (.tmp 7 _ rfl) .nil)) (.cons 0 rfl (.nil _)) (by cases h; exact ⟨gl [w_213], rfl, rfl⟩)

theorem raddleref04_walk_b_T (K : Nat) (rec_raddleref04_walk : (List api_Node) → Int → (List Int) → Option ((List Int) × Bool)) (hrec_raddleref04_walk : raddleref04_walk_S rec_raddleref04_walk) {x0 : List api_Node} {x1 : Int} {x2 : List Int} {flx0 : Bool} {wx2 : Value} {r : (List Int) × Bool} (h : raddleref04_walk_b K rec_raddleref04_walk x0 x1 x2 = some r) : CallG Try.prog 27 [.sl flx0 9 (x0.map c_api_Node), .int .i64 x1, .c (.ex wx2)] [.arrA wx2 3 1 (x2.map (cI .i64))] (fun γ => (.tup [.c (.ex (γ 0)), .bool r.2])) (fun γ => [.arrA (γ 0) 3 1 (r.1.map (cI .i64))]) := by
  refine CallT.intro Try.func27 rfl (Nat.le_of_ble_eq_true rfl) ?_
  show T Try.prog 59 (Code.at [] (codeOf Try.f27)) ⟨paramSlots 0 [.sl flx0 9 (x0.map c_api_Node), .int .i64 x1, .c (.ex wx2)], [.arrA wx2 3 1 (x2.map (cI .i64))]⟩ (raddleref04_walk_q r)
  unfold raddleref04_walk_b at h
  refine T.seq ?_
  refine T.regionL ?_
  refine asg rfl rfl rfl rfl rfl ?_
  refine asg rfl rfl rfl rfl rfl ?_
  refine TL'.nil (thenS_normal ?_)
  refine T.seq ?_
  refine T.seq ?_
  refine T.regionL ?_
  refine mv rfl rfl rfl rfl rfl ?_
  refine sp rfl (OpT.lenAM (i := 0) (xs := x2) (f := (cI .i64)) rfl (dl rfl rfl) Try.underlying34 rfl rfl ?_)
  refine mv rfl rfl rfl rfl rfl ?_
  refine sp rfl (OpT.lenSlM (xs := x0) (f := c_api_Node) rfl (dl rfl rfl) Try.underlying23 rfl ?_)
  refine sp rfl (OpT.int2 rfl rfl (dl rfl rfl) rfl rfl ?_)
  refine TL'.nil (thenS_normal ?_)
  rcases bif_some h with ⟨c_201, h⟩ | ⟨c_201, h⟩
  · refine T.condT rfl c_201 ?_
    refine T.seq ?_
    refine T.regionL ?_
    refine mv rfl rfl rfl rfl rfl ?_
    refine asg rfl rfl rfl rfl rfl ?_
    refine asg rfl rfl rfl rfl rfl ?_
    refine TL'.nil (thenS_normal ?_)
    refine T.ret (thenS_ret ?_)
    exact Fin.doneK (.cons _ _ _ _ (.tmp 6 _ rfl) (.cons _ _ _ _ (.tmp 7 _ rfl) .nil)) (.cons 0 rfl (.nil _)) (by cases h; exact ⟨gl [wx2], rfl, rfl⟩)
  · refine T.condF rfl c_201 ?_
    refine T.skip (thenS_normal ?_)
    refine T.seq ?_
    refine T.seq ?_
    refine T.regionL ?_
    refine asg rfl rfl rfl rfl rfl ?_
    refine TL'.nil (thenS_normal ?_)
    refine T.block ?_
    refine T.loop ?_
    refine TL.by_turn ?_ (raddleref04_walk_l0_T K rec_raddleref04_walk hrec_raddleref04_walk K x0 x1 (0 : Int) x2 flx0 wx2 h)
    exact Turn.rp (.cons rfl (.cons rfl (.cons rfl (.cons rfl (.nil _))))) (.c .z (.n _))

theorem raddleref04_walk_r_T (K : Nat) : ∀ n, raddleref04_walk_S (raddleref04_walk_r K n) := by
  intro n
  induction n with
  | zero =>
    intro x0 x1 x2 flx0 wx2 r h
    cases (show (none : Option ((List Int) × Bool)) = some r from h)
  | succ n ih =>
    intro x0 x1 x2 flx0 wx2 r h
    exact raddleref04_walk_b_T K (raddleref04_walk_r K n) ih h

theorem raddleref04_walk_T (K : Nat) {x0 : List api_Node} {x1 : Int} {x2 : List Int} {flx0 : Bool} {wx2 : Value} {r : (List Int) × Bool} (h : raddleref04_walk K x0 x1 x2 = some r) : CallG Try.prog 27 [.sl flx0 9 (x0.map c_api_Node), .int .i64 x1, .c (.ex wx2)] [.arrA wx2 3 1 (x2.map (cI .i64))] (fun γ => (.tup [.c (.ex (γ 0)), .bool r.2])) (fun γ => [.arrA (γ 0) 3 1 (r.1.map (cI .i64))]) := raddleref04_walk_r_T K K x0 x1 x2 flx0 wx2 r h

abbrev raddleref04_letter_q (r : Bool) : Exit → St → Prop := retS Try.prog Try.f37 (fun y t => y = (.bool r) ∧ t = [])

theorem raddleref04_letter_T (K : Nat) {x0 : Int} {r : Bool} (h : raddleref04_letter K x0 = some r) : CallR Try.prog 37 [.int .u8 x0] [] (.bool r) := by
  refine CallT.intro Try.func37 rfl (Nat.le_of_ble_eq_true rfl) ?_
  show T Try.prog 21 (Code.at [] (codeOf Try.f37)) ⟨paramSlots 0 [.int .u8 x0], []⟩ (raddleref04_letter_q r)
  unfold raddleref04_letter at h
  refine T.seq ?_
  refine T.regionL ?_
  refine asg rfl rfl rfl rfl rfl ?_
  refine TL'.nil (thenS_normal ?_)
  refine T.seq ?_
  refine T.regionL ?_
  refine mv rfl rfl rfl rfl rfl ?_
  refine sp rfl (OpT.int2 rfl rfl (dl rfl rfl) rfl rfl ?_)
  refine mv rfl rfl rfl rfl rfl ?_
  rcases bif_some h with ⟨c_25, h⟩ | ⟨c_25, h⟩
  · refine TL'.step (.on rfl rfl rfl c_25) (OpT.move rfl (dl rfl rfl) rfl ?_)
    refine TL'.step (.on rfl rfl rfl c_25) (OpT.int2 rfl rfl (dl rfl rfl) rfl rfl ?_)
    refine sp rfl (OpT.pickT rfl (dl rfl rfl) rfl c_25 rfl ?_)
    refine mv rfl rfl rfl rfl rfl ?_
    rcases bif_some h with ⟨c_26, h⟩ | ⟨c_26, h⟩
    · refine TL'.passU (.off _ _ _ _ rfl rfl rfl c_26) (dl rfl rfl) ?_
      refine TL'.passU (.off _ _ _ _ rfl rfl rfl c_26) (dl rfl rfl) ?_
      refine TL'.passU (.off _ _ _ _ rfl rfl rfl c_26) (dl rfl rfl) ?_
      refine TL'.passU (.gone _ _ _ rfl rfl rfl) (dl rfl rfl) ?_
      refine TL'.passU (.gone _ _ _ rfl rfl rfl) (dl rfl rfl) ?_
      refine TL'.passU (.off _ _ _ _ rfl rfl rfl c_26) (dl rfl rfl) ?_
      refine sp rfl (OpT.pickT rfl (dl rfl rfl) rfl c_26 rfl ?_)
      refine mv rfl rfl rfl rfl rfl ?_
      refine TL'.passU (.off _ _ _ _ rfl rfl rfl rfl) (dl rfl rfl) ?_
      refine TL'.passU (.off _ _ _ _ rfl rfl rfl rfl) (dl rfl rfl) ?_
      refine sp rfl (OpT.pickT rfl (dl rfl rfl) rfl rfl rfl ?_)
      refine asg rfl rfl rfl rfl rfl ?_
      refine TL'.nil (thenS_normal ?_)
      refine T.ret ?_
      exact Fin.done (.cons _ _ _ _ (.tmp 2 _ rfl) .nil) (by cases h; exact ⟨rfl, rfl⟩)
    · refine TL'.step (.on rfl rfl rfl c_26) (OpT.move rfl (dl rfl rfl) rfl ?_)
      refine TL'.step (.on rfl rfl rfl c_26) (OpT.int2 rfl rfl (dl rfl rfl) rfl rfl ?_)
      refine TL'.step (.on rfl rfl rfl c_26) (OpT.move rfl (dl rfl rfl) rfl ?_)
      rcases bif_some h with ⟨c_27, h⟩ | ⟨c_27, h⟩
      · refine TL'.step (.on rfl rfl rfl c_27) (OpT.move rfl (dl rfl rfl) rfl ?_)
        refine TL'.step (.on rfl rfl rfl c_27) (OpT.int2 rfl rfl (dl rfl rfl) rfl rfl ?_)
        refine TL'.step (.on rfl rfl rfl c_26) (OpT.pickT rfl (dl rfl rfl) rfl c_27 rfl ?_)
        refine sp rfl (OpT.pickF rfl (dl rfl rfl) rfl c_26 rfl ?_)
        refine mv rfl rfl rfl rfl rfl ?_
        rcases bif_some h with ⟨c_28, h⟩ | ⟨c_28, h⟩
        · refine TL'.passU (.off _ _ _ _ rfl rfl rfl c_28) (dl rfl rfl) ?_
          refine TL'.passU (.off _ _ _ _ rfl rfl rfl c_28) (dl rfl rfl) ?_
          refine sp rfl (OpT.pickT rfl (dl rfl rfl) rfl c_28 rfl ?_)
          refine asg rfl rfl rfl rfl rfl ?_
          refine TL'.nil (thenS_normal ?_)
          refine T.ret ?_
          exact Fin.done (.cons _ _ _ _ (.tmp 2 _ rfl) .nil) (by cases h; exact ⟨rfl, rfl⟩)
        · refine TL'.step (.on rfl rfl rfl c_28) (OpT.move rfl (dl rfl rfl) rfl ?_)
          refine TL'.step (.on rfl rfl rfl c_28) (OpT.int2 rfl rfl (dl rfl rfl) rfl rfl ?_)
          refine sp rfl (OpT.pickF rfl (dl rfl rfl) rfl c_28 rfl ?_)
          refine asg rfl rfl rfl rfl rfl ?_
          refine TL'.nil (thenS_normal ?_)
          refine T.ret ?_
          exact Fin.done (.cons _ _ _ _ (.tmp 2 _ rfl) .nil) (by cases h; exact ⟨rfl, rfl⟩)
      · refine TL'.passU (.off _ _ _ _ rfl rfl rfl c_27) (dl rfl rfl) ?_
        refine TL'.passU (.off _ _ _ _ rfl rfl rfl c_27) (dl rfl rfl) ?_
        refine TL'.step (.on rfl rfl rfl c_26) (OpT.pickF rfl (dl rfl rfl) rfl c_27 rfl ?_)
        refine sp rfl (OpT.pickF rfl (dl rfl rfl) rfl c_26 rfl ?_)
        refine mv rfl rfl rfl rfl rfl ?_
        refine TL'.step (.on rfl rfl rfl rfl) (OpT.move rfl (dl rfl rfl) rfl ?_)
        refine TL'.step (.on rfl rfl rfl rfl) (OpT.int2 rfl rfl (dl rfl rfl) rfl rfl ?_)
        refine sp rfl (OpT.pickF rfl (dl rfl rfl) rfl rfl rfl ?_)
        refine asg rfl rfl rfl rfl rfl ?_
        refine TL'.nil (thenS_normal ?_)
        refine T.ret ?_
        exact Fin.done (.cons _ _ _ _ (.tmp 2 _ rfl) .nil) (by cases h; exact ⟨rfl, rfl⟩)
  · refine TL'.passU (.off _ _ _ _ rfl rfl rfl c_25) (dl rfl rfl) ?_
    refine TL'.passU (.off _ _ _ _ rfl rfl rfl c_25) (dl rfl rfl) ?_
    refine sp rfl (OpT.pickF rfl (dl rfl rfl) rfl c_25 rfl ?_)
    refine mv rfl rfl rfl rfl rfl ?_
    refine TL'.step (.on rfl rfl rfl rfl) (OpT.move rfl (dl rfl rfl) rfl ?_)
    refine TL'.step (.on rfl rfl rfl rfl) (OpT.int2 rfl rfl (dl rfl rfl) rfl rfl ?_)
    refine TL'.step (.on rfl rfl rfl rfl) (OpT.move rfl (dl rfl rfl) rfl ?_)
    rcases bif_some h with ⟨c_29, h⟩ | ⟨c_29, h⟩
    · refine TL'.step (.on rfl rfl rfl c_29) (OpT.move rfl (dl rfl rfl) rfl ?_)
      refine TL'.step (.on rfl rfl rfl c_29) (OpT.int2 rfl rfl (dl rfl rfl) rfl rfl ?_)
      refine TL'.step (.on rfl rfl rfl rfl) (OpT.pickT rfl (dl rfl rfl) rfl c_29 rfl ?_)
      refine sp rfl (OpT.pickF rfl (dl rfl rfl) rfl rfl rfl ?_)
      refine mv rfl rfl rfl rfl rfl ?_
      rcases bif_some h with ⟨c_30, h⟩ | ⟨c_30, h⟩
      · refine TL'.passU (.off _ _ _ _ rfl rfl rfl c_30) (dl rfl rfl) ?_
        refine TL'.passU (.off _ _ _ _ rfl rfl rfl c_30) (dl rfl rfl) ?_
        refine sp rfl (OpT.pickT rfl (dl rfl rfl) rfl c_30 rfl ?_)
        refine asg rfl rfl rfl rfl rfl ?_
        refine TL'.nil (thenS_normal ?_)
        refine T.ret ?_
        exact Fin.done (.cons _ _ _ _ (.tmp 2 _ rfl) .nil) (by cases h; exact ⟨rfl, rfl⟩)
      · refine TL'.step (.on rfl rfl rfl c_30) (OpT.move rfl (dl rfl rfl) rfl ?_)
        refine TL'.step (.on rfl rfl rfl c_30) (OpT.int2 rfl rfl (dl rfl rfl) rfl rfl ?_)
        refine sp rfl (OpT.pickF rfl (dl rfl rfl) rfl c_30 rfl ?_)
        refine asg rfl rfl rfl rfl rfl ?_
        refine TL'.nil (thenS_normal ?_)
        refine T.ret ?_
        exact Fin.done (.cons _ _ _ _ (.tmp 2 _ rfl) .nil) (by cases h; exact ⟨rfl, rfl⟩)
    · refine TL'.passU (.off _ _ _ _ rfl rfl rfl c_29) (dl rfl rfl) ?_
      refine TL'.passU (.off _ _ _ _ rfl rfl rfl c_29) (dl rfl rfl) ?_
      refine TL'.step (.on rfl rfl rfl rfl) (OpT.pickF rfl (dl rfl rfl) rfl c_29 rfl ?_)
      refine sp rfl (OpT.pickF rfl (dl rfl rfl) rfl rfl rfl ?_)
      refine mv rfl rfl rfl rfl rfl ?_
      refine TL'.step (.on rfl rfl rfl rfl) (OpT.move rfl (dl rfl rfl) rfl ?_)
      refine TL'.step (.on rfl rfl rfl rfl) (OpT.int2 rfl rfl (dl rfl rfl) rfl rfl ?_)
      refine sp rfl (OpT.pickF rfl (dl rfl rfl) rfl rfl rfl ?_)
      refine asg rfl rfl rfl rfl rfl ?_
      refine TL'.nil (thenS_normal ?_)
      refine T.ret ?_
      exact Fin.done (.cons _ _ _ _ (.tmp 2 _ rfl) .nil) (by cases h; exact ⟨rfl, rfl⟩)

abbrev raddleref04_digit_q (r : Bool) : Exit → St → Prop := retS Try.prog Try.f38 (fun y t => y = (.bool r) ∧ t = [])

theorem raddleref04_digit_T (K : Nat) {x0 : Int} {r : Bool} (h : raddleref04_digit K x0 = some r) : CallR Try.prog 38 [.int .u8 x0] [] (.bool r) := by
  refine CallT.intro Try.func38 rfl (Nat.le_of_ble_eq_true rfl) ?_
  show T Try.prog 9 (Code.at [] (codeOf Try.f38)) ⟨paramSlots 0 [.int .u8 x0], []⟩ (raddleref04_digit_q r)
  unfold raddleref04_digit at h
  refine T.seq ?_
  refine T.regionL ?_
  refine asg rfl rfl rfl rfl rfl ?_
  refine TL'.nil (thenS_normal ?_)
  refine T.seq ?_
  refine T.regionL ?_
  refine mv rfl rfl rfl rfl rfl ?_
  refine sp rfl (OpT.int2 rfl rfl (dl rfl rfl) rfl rfl ?_)
  refine mv rfl rfl rfl rfl rfl ?_
  rcases bif_some h with ⟨c_5, h⟩ | ⟨c_5, h⟩
  · refine TL'.step (.on rfl rfl rfl c_5) (OpT.move rfl (dl rfl rfl) rfl ?_)
    refine TL'.step (.on rfl rfl rfl c_5) (OpT.int2 rfl rfl (dl rfl rfl) rfl rfl ?_)
    refine sp rfl (OpT.pickT rfl (dl rfl rfl) rfl c_5 rfl ?_)
    refine asg rfl rfl rfl rfl rfl ?_
    refine TL'.nil (thenS_normal ?_)
    refine T.ret ?_
    exact Fin.done (.cons _ _ _ _ (.tmp 2 _ rfl) .nil) (by cases h; exact ⟨rfl, rfl⟩)
  · refine TL'.passU (.off _ _ _ _ rfl rfl rfl c_5) (dl rfl rfl) ?_
    refine TL'.passU (.off _ _ _ _ rfl rfl rfl c_5) (dl rfl rfl) ?_
    refine sp rfl (OpT.pickF rfl (dl rfl rfl) rfl c_5 rfl ?_)
    refine asg rfl rfl rfl rfl rfl ?_
    refine TL'.nil (thenS_normal ?_)
    refine T.ret ?_
    exact Fin.done (.cons _ _ _ _ (.tmp 2 _ rfl) .nil) (by cases h; exact ⟨rfl, rfl⟩)

abbrev raddleref04_Name_q (r : Bool) : Exit → St → Prop := retS Try.prog Try.f32 (fun y t => y = (.bool r) ∧ t = [])

abbrev raddleref04_Name_qs11 (r : Bool) : Exit → St → Prop := thenS (fun s' => T Try.prog 34 (Code.at [1, 1] (codeOf Try.f32)) s' ((raddleref04_Name_q r))) ((raddleref04_Name_q r))

abbrev raddleref04_Name_qb0x11 (r : Bool) : Exit → St → Prop := inBlockS 0 ((raddleref04_Name_qs11 r))

abbrev raddleref04_Name_ql1010 (r : Bool) : Exit → St → Prop := thenS (fun s' => TL Try.prog 34 (Code.at [1, 0, 1, 0, 0] (codeOf Try.f32)) s' ((raddleref04_Name_qb0x11 r))) ((raddleref04_Name_qb0x11 r))

abbrev raddleref04_Name_qs1010011 (r : Bool) : Exit → St → Prop := thenS (fun s' => T Try.prog 34 (Code.at [1, 0, 1, 0, 0, 1, 1] (codeOf Try.f32)) s' ((raddleref04_Name_ql1010 r))) ((raddleref04_Name_ql1010 r))

abbrev raddleref04_Name_qb1_0x1010011 (r : Bool) : Exit → St → Prop := inBlockS 1 ((raddleref04_Name_qs1010011 r))

theorem raddleref04_Name_j1_T {r : Bool} (K : Nat) (h : raddleref04_Name_j1 K = some r) : T Try.prog 34 (Code.at [1, 0, 1, 0, 0, 1, 0, 0, 1, 0] (codeOf Try.f32)) ⟨[], []⟩ (raddleref04_Name_qb1_0x1010011 r) := by
  unfold raddleref04_Name_j1 at h
  refine T.seq ?_
  refine T.regionL ?_
  refine asg rfl rfl rfl rfl rfl ?_
  refine TL'.nil (thenS_normal ?_)
  refine T.ret (inBlock_ret (thenS_ret (thenS_ret (inBlock_ret (thenS_ret ?_)))))
  exact Fin.done (.cons _ _ _ _ (.tmp 2 _ rfl) .nil) (by cases h; exact ⟨rfl, rfl⟩)

theorem raddleref04_Name_l0_T {r : Bool} (K : Nat) : ∀ (k : Nat), ∀ (x0 : ByteArray) (x3_0_1 : Int), raddleref04_Name_l0 K k x0 x3_0_1 = some r → TL Try.prog 34 (Code.at [1, 0, 1, 0, 0] (codeOf Try.f32)) ⟨[(0, .str x0), (3, .int .i64 x3_0_1)], []⟩ (raddleref04_Name_qb0x11 r) := by
  intro k
  induction k with
  | zero =>
    intro x0 x3_0_1 h
    cases (show (none : Option Bool) = some r from h)
  | succ k ih =>
    intro x0 x3_0_1 h
    rw [raddleref04_Name_l0] at h
    refine TL.round ?_
    refine T.seq ?_
    refine T.seq ?_
    refine T.regionL ?_
    refine mv rfl rfl rfl rfl rfl ?_
    refine mv rfl rfl rfl rfl rfl ?_
    refine sp rfl (OpT.lenStr rfl (dl rfl rfl) Try.underlying9 rfl ?_)
    refine sp rfl (OpT.int2 rfl rfl (dl rfl rfl) rfl rfl ?_)
    refine TL'.nil (thenS_normal ?_)
    rcases bif_some h with ⟨c_75, h⟩ | ⟨c_75, h⟩
    · refine T.condT rfl c_75 ?_
      refine T.skip (thenS_normal ?_)
      refine T.seq ?_
      refine T.block ?_
      refine T.seq ?_
      refine T.regionL ?_
      refine mv rfl rfl rfl rfl rfl ?_
      refine mv rfl rfl rfl rfl rfl ?_
      obtain ⟨g_76, h⟩ := ck_some h
      refine sp rfl (OpT.indexStr rfl (dl rfl rfl) Try.underlying9 rfl rfl g_76.1 g_76.2 ?_)
      obtain ⟨v_77, e_78, h⟩ := bind_some h
      refine sp rfl (OpT.callPA rfl (dl rfl rfl) Try.func37 rfl rfl (Args.cons rfl Args.nil) (CallR.nil (raddleref04_letter_T K e_78)) ?_)
      refine sp rfl (OpT.not rfl (dl rfl rfl) rfl ?_)
      refine mv rfl rfl rfl rfl rfl ?_
      rcases bif_some h with ⟨c_79, h⟩ | ⟨c_79, h⟩
      · refine TL'.step (.on rfl rfl rfl c_79) (OpT.move rfl (dl rfl rfl) rfl ?_)
        refine TL'.step (.on rfl rfl rfl c_79) (OpT.int2 rfl rfl (dl rfl rfl) rfl rfl ?_)
        refine TL'.step (.on rfl rfl rfl c_79) (OpT.move rfl (dl rfl rfl) rfl ?_)
        rcases bif_some h with ⟨c_80, h⟩ | ⟨c_80, h⟩
        · refine TL'.passU (.off _ _ _ _ rfl rfl rfl c_80) (dl rfl rfl) ?_
          refine TL'.passU (.off _ _ _ _ rfl rfl rfl c_80) (dl rfl rfl) ?_
          refine TL'.passU (.off _ _ _ _ rfl rfl rfl c_80) (dl rfl rfl) ?_
          refine TL'.passU (.off _ _ _ _ rfl rfl rfl c_80) (dl rfl rfl) ?_
          refine TL'.passU (.off _ _ _ _ rfl rfl rfl c_80) (dl rfl rfl) ?_
          refine TL'.step (.on rfl rfl rfl c_79) (OpT.pickT rfl (dl rfl rfl) rfl c_80 rfl ?_)
          refine sp rfl (OpT.pickT rfl (dl rfl rfl) rfl c_79 rfl ?_)
          refine TL'.nil (thenS_normal ?_)
          refine T.condT rfl rfl ?_
          refine T.by_turn ?_ (raddleref04_Name_j1_T K h)
          exact Turn.rp (.nil _) (.n _)
        · refine TL'.step (.on rfl rfl rfl c_80) (OpT.move rfl (dl rfl rfl) rfl ?_)
          refine TL'.step (.on rfl rfl rfl c_80) (OpT.move rfl (dl rfl rfl) rfl ?_)
          refine TL'.step (.on rfl rfl rfl c_80) (OpT.indexStr rfl (dl rfl rfl) Try.underlying9 rfl rfl g_76.1 g_76.2 ?_)
          obtain ⟨v_81, e_82, h⟩ := bind_some h
          refine TL'.step (.on rfl rfl rfl c_80) (OpT.callPA rfl (dl rfl rfl) Try.func38 rfl rfl (Args.cons rfl Args.nil) (CallR.nil (raddleref04_digit_T K e_82)) ?_)
          refine TL'.step (.on rfl rfl rfl c_80) (OpT.not rfl (dl rfl rfl) rfl ?_)
          refine TL'.step (.on rfl rfl rfl c_79) (OpT.pickF rfl (dl rfl rfl) rfl c_80 rfl ?_)
          refine sp rfl (OpT.pickT rfl (dl rfl rfl) rfl c_79 rfl ?_)
          refine TL'.nil (thenS_normal ?_)
          rcases bif_some h with ⟨c_83, h⟩ | ⟨c_83, h⟩
          · refine T.condT rfl c_83 ?_
            refine T.by_turn ?_ (raddleref04_Name_j1_T K h)
            exact Turn.rp (.nil _) (.n _)
          · refine T.condF rfl c_83 ?_
            refine T.skip (inBlock_normal (thenS_normal ?_))
            refine T.regionL ?_
            refine mv rfl rfl rfl rfl rfl ?_
            refine sp rfl (OpT.int2 rfl rfl (dl rfl rfl) rfl rfl ?_)
            refine asg rfl rfl rfl rfl rfl ?_
            refine TL'.nil (thenS_normal ?_)
            refine TL.by_turn ?_ (ih x0 (IntKind.i64.wrap (x3_0_1 + (1 : Int))) h)
            exact Turn.rp (.cons rfl (.cons rfl (.nil _))) (.n _)
      · refine TL'.passU (.off _ _ _ _ rfl rfl rfl c_79) (dl rfl rfl) ?_
        refine TL'.passU (.off _ _ _ _ rfl rfl rfl c_79) (dl rfl rfl) ?_
        refine TL'.passU (.off _ _ _ _ rfl rfl rfl c_79) (dl rfl rfl) ?_
        refine TL'.passU (.gone _ _ _ rfl rfl rfl) (dl rfl rfl) ?_
        refine TL'.passU (.gone _ _ _ rfl rfl rfl) (dl rfl rfl) ?_
        refine TL'.passU (.gone _ _ _ rfl rfl rfl) (dl rfl rfl) ?_
        refine TL'.passU (.gone _ _ _ rfl rfl rfl) (dl rfl rfl) ?_
        refine TL'.passU (.gone _ _ _ rfl rfl rfl) (dl rfl rfl) ?_
        refine TL'.passU (.off _ _ _ _ rfl rfl rfl c_79) (dl rfl rfl) ?_
        refine sp rfl (OpT.pickF rfl (dl rfl rfl) rfl c_79 rfl ?_)
        refine TL'.nil (thenS_normal ?_)
        refine T.condF rfl rfl ?_
        refine T.skip (inBlock_normal (thenS_normal ?_))
        refine T.regionL ?_
        refine mv rfl rfl rfl rfl rfl ?_
        refine sp rfl (OpT.int2 rfl rfl (dl rfl rfl) rfl rfl ?_)
        refine asg rfl rfl rfl rfl rfl ?_
        refine TL'.nil (thenS_normal ?_)
        refine TL.by_turn ?_ (ih x0 (IntKind.i64.wrap (x3_0_1 + (1 : Int))) h)
        exact Turn.rp (.cons rfl (.cons rfl (.nil _))) (.n _)
    · refine T.condF rfl c_75 ?_
      refine T.exit (thenS_exit (thenS_exit (inBlock_exit (thenS_normal ?_))))
      refine T.seq ?_
      refine T.regionL ?_
      refine mv rfl rfl rfl rfl rfl ?_
      refine sp rfl (OpT.lenStr rfl (dl rfl rfl) Try.underlying9 rfl ?_)
      refine sp rfl (OpT.int2 rfl rfl (dl rfl rfl) rfl rfl ?_)
      refine mv rfl rfl rfl rfl rfl ?_
      rcases bif_some h with ⟨c_84, h⟩ | ⟨c_84, h⟩
      · refine TL'.step (.on rfl rfl rfl c_84) (OpT.move rfl (dl rfl rfl) rfl ?_)
        refine TL'.step (.on rfl rfl rfl c_84) (OpT.lenStr rfl (dl rfl rfl) Try.underlying9 rfl ?_)
        refine TL'.step (.on rfl rfl rfl c_84) (OpT.int2 rfl rfl (dl rfl rfl) rfl rfl ?_)
        refine sp rfl (OpT.pickT rfl (dl rfl rfl) rfl c_84 rfl ?_)
        refine asg rfl rfl rfl rfl rfl ?_
        refine TL'.nil (thenS_normal ?_)
        refine T.ret ?_
        exact Fin.done (.cons _ _ _ _ (.tmp 2 _ rfl) .nil) (by cases h; exact ⟨rfl, rfl⟩)
      · refine TL'.passU (.off _ _ _ _ rfl rfl rfl c_84) (dl rfl rfl) ?_
        refine TL'.passU (.off _ _ _ _ rfl rfl rfl c_84) (dl rfl rfl) ?_
        refine TL'.passU (.off _ _ _ _ rfl rfl rfl c_84) (dl rfl rfl) ?_
        refine sp rfl (OpT.pickF rfl (dl rfl rfl) rfl c_84 rfl ?_)
        refine asg rfl rfl rfl rfl rfl ?_
        refine TL'.nil (thenS_normal ?_)
        refine T.ret ?_
        exact Fin.done (.cons _ _ _ _ (.tmp 2 _ rfl) .nil) (by cases h; exact ⟨rfl, rfl⟩)

theorem raddleref04_Name_T (K : Nat) {x0 : ByteArray} {r : Bool} (h : raddleref04_Name K x0 = some r) : CallR Try.prog 32 [.str x0] [] (.bool r) := by
  refine CallT.intro Try.func32 rfl (Nat.le_of_ble_eq_true rfl) ?_
  show T Try.prog 34 (Code.at [] (codeOf Try.f32)) ⟨paramSlots 0 [.str x0], []⟩ (raddleref04_Name_q r)
  unfold raddleref04_Name at h
  refine T.seq ?_
  refine T.regionL ?_
  refine asg rfl rfl rfl rfl rfl ?_
  refine TL'.nil (thenS_normal ?_)
  refine T.seq ?_
  refine T.seq ?_
  refine T.regionL ?_
  refine asg rfl rfl rfl rfl rfl ?_
  refine TL'.nil (thenS_normal ?_)
  refine T.block ?_
  refine T.loop ?_
  refine TL.by_turn ?_ (raddleref04_Name_l0_T K K x0 (0 : Int) h)
  exact Turn.rp (.cons rfl (.cons rfl (.nil _))) (.n _)

abbrev raddleref04_shape_q (r : Bool) : Exit → St → Prop := retS Try.prog Try.f26 (fun y t => y = (.bool r) ∧ t = [])

abbrev raddleref04_shape_qs11111 (r : Bool) : Exit → St → Prop := thenS (fun s' => T Try.prog 144 (Code.at [1, 1, 1, 1, 1] (codeOf Try.f26)) s' ((raddleref04_shape_q r))) ((raddleref04_shape_q r))

abbrev raddleref04_shape_qb0x11111 (r : Bool) : Exit → St → Prop := inBlockS 0 ((raddleref04_shape_qs11111 r))

theorem raddleref04_shape_j2_T {r : Bool} (K : Nat) (x3_0_6 : Bool) (x5_1_8 : Bool) (x6_2_8 : Bool) (x0 : api_Node) (b1_2 : Nat) (h : raddleref04_shape_j2 K x3_0_6 x5_1_8 x6_2_8 x0 = some r) : T Try.prog 144 (Code.at [1, 1, 1, 1, 0, 1, 0, 1, 1, 1, 1, 1, 1, 1, 0, 1] (codeOf Try.f26)) ⟨[(1, .ptr b1_2 0), (3, .bool x3_0_6), (5, .bool x5_1_8), (6, .bool x6_2_8)], [.box b1_2 36 [.d (.int .u8 x0.Op), .d (.int .u64 x0.S.a0), .d (.int .u64 x0.S.a1), .d (.int .u64 x0.S.a2), .d (.int .u64 x0.S.a3), .d (.sl false 1 (x0.L.map (cI .i64))), .d (.int .i64 x0.Lo), .d (.int .i64 x0.Hi), .d (.str x0.Name)]]⟩ (raddleref04_shape_qb0x11111 r) := by
  unfold raddleref04_shape_j2 at h
  refine T.seq ?_
  refine T.regionL ?_
  refine mv rfl rfl rfl rfl rfl ?_
  refine sp rfl (OpT.not rfl (dl rfl rfl) rfl ?_)
  refine mv rfl rfl rfl rfl rfl ?_
  rcases bif_some h with ⟨c_168, h⟩ | ⟨c_168, h⟩
  · refine TL'.step (.on rfl rfl rfl c_168) (OpT.move rfl (dl rfl rfl) rfl ?_)
    refine TL'.step (.on rfl rfl rfl c_168) (OpT.not rfl (dl rfl rfl) rfl ?_)
    refine sp rfl (OpT.pickT rfl (dl rfl rfl) rfl c_168 rfl ?_)
    refine mv rfl rfl rfl rfl rfl ?_
    rcases bif_some h with ⟨c_169, h⟩ | ⟨c_169, h⟩
    · refine TL'.step (.on rfl rfl rfl c_169) (OpT.fieldPtr rfl (dl rfl rfl) Try.underlying36 rfl i34 (by decide) rfl ?_)
      refine TL'.step (.on rfl rfl rfl c_169) (OpT.loadBox (i := 0) rfl (dl rfl rfl) Try.underlying34 rfl rfl rfl rfl ?_)
      refine TL'.step (.on rfl rfl rfl c_169) (OpT.lenSlM (xs := x0.L) (f := (cI .i64)) rfl (dl rfl rfl) Try.underlying34 rfl ?_)
      refine TL'.step (.on rfl rfl rfl c_169) (OpT.int2 rfl rfl (dl rfl rfl) rfl rfl ?_)
      refine sp rfl (OpT.pickT rfl (dl rfl rfl) rfl c_169 rfl ?_)
      refine mv rfl rfl rfl rfl rfl ?_
      rcases bif_some h with ⟨c_170, h⟩ | ⟨c_170, h⟩
      · refine TL'.step (.on rfl rfl rfl c_170) (OpT.fieldPtr rfl (dl rfl rfl) Try.underlying36 rfl i3 (by decide) rfl ?_)
        refine TL'.step (.on rfl rfl rfl c_170) (OpT.loadBox (i := 0) rfl (dl rfl rfl) Try.underlying3 rfl rfl rfl rfl ?_)
        refine TL'.step (.on rfl rfl rfl c_170) (OpT.int2 rfl rfl (dl rfl rfl) rfl rfl ?_)
        refine sp rfl (OpT.pickT rfl (dl rfl rfl) rfl c_170 rfl ?_)
        refine mv rfl rfl rfl rfl rfl ?_
        rcases bif_some h with ⟨c_171, h⟩ | ⟨c_171, h⟩
        · refine TL'.step (.on rfl rfl rfl c_171) (OpT.fieldPtr rfl (dl rfl rfl) Try.underlying36 rfl i3 (by decide) rfl ?_)
          refine TL'.step (.on rfl rfl rfl c_171) (OpT.loadBox (i := 0) rfl (dl rfl rfl) Try.underlying3 rfl rfl rfl rfl ?_)
          refine TL'.step (.on rfl rfl rfl c_171) (OpT.int2 rfl rfl (dl rfl rfl) rfl rfl ?_)
          refine sp rfl (OpT.pickT rfl (dl rfl rfl) rfl c_171 rfl ?_)
          refine mv rfl rfl rfl rfl rfl ?_
          rcases bif_some h with ⟨c_172, h⟩ | ⟨c_172, h⟩
          · refine TL'.step (.on rfl rfl rfl c_172) (OpT.move rfl (dl rfl rfl) rfl ?_)
            refine sp rfl (OpT.pickT rfl (dl rfl rfl) rfl c_172 rfl ?_)
            refine asg rfl rfl rfl rfl rfl ?_
            refine TL'.nil (thenS_normal ?_)
            refine T.ret (inBlock_ret (thenS_ret ?_))
            exact Fin.done (.cons _ _ _ _ (.tmp 2 _ rfl) .nil) (by cases h; exact ⟨rfl, rfl⟩)
          · refine TL'.passU (.off _ _ _ _ rfl rfl rfl c_172) (dl rfl rfl) ?_
            refine sp rfl (OpT.pickF rfl (dl rfl rfl) rfl c_172 rfl ?_)
            refine asg rfl rfl rfl rfl rfl ?_
            refine TL'.nil (thenS_normal ?_)
            refine T.ret (inBlock_ret (thenS_ret ?_))
            exact Fin.done (.cons _ _ _ _ (.tmp 2 _ rfl) .nil) (by cases h; exact ⟨rfl, rfl⟩)
        · refine TL'.passU (.off _ _ _ _ rfl rfl rfl c_171) (dl rfl rfl) ?_
          refine TL'.passU (.off _ _ _ _ rfl rfl rfl c_171) (dl rfl rfl) ?_
          refine TL'.passU (.off _ _ _ _ rfl rfl rfl c_171) (dl rfl rfl) ?_
          refine sp rfl (OpT.pickF rfl (dl rfl rfl) rfl c_171 rfl ?_)
          refine mv rfl rfl rfl rfl rfl ?_
          refine TL'.passU (.off _ _ _ _ rfl rfl rfl rfl) (dl rfl rfl) ?_
          refine sp rfl (OpT.pickF rfl (dl rfl rfl) rfl rfl rfl ?_)
          refine asg rfl rfl rfl rfl rfl ?_
          refine TL'.nil (thenS_normal ?_)
          refine T.ret (inBlock_ret (thenS_ret ?_))
          exact Fin.done (.cons _ _ _ _ (.tmp 2 _ rfl) .nil) (by cases h; exact ⟨rfl, rfl⟩)
      · refine TL'.passU (.off _ _ _ _ rfl rfl rfl c_170) (dl rfl rfl) ?_
        refine TL'.passU (.off _ _ _ _ rfl rfl rfl c_170) (dl rfl rfl) ?_
        refine TL'.passU (.off _ _ _ _ rfl rfl rfl c_170) (dl rfl rfl) ?_
        refine sp rfl (OpT.pickF rfl (dl rfl rfl) rfl c_170 rfl ?_)
        refine mv rfl rfl rfl rfl rfl ?_
        refine TL'.passU (.off _ _ _ _ rfl rfl rfl rfl) (dl rfl rfl) ?_
        refine TL'.passU (.off _ _ _ _ rfl rfl rfl rfl) (dl rfl rfl) ?_
        refine TL'.passU (.off _ _ _ _ rfl rfl rfl rfl) (dl rfl rfl) ?_
        refine sp rfl (OpT.pickF rfl (dl rfl rfl) rfl rfl rfl ?_)
        refine mv rfl rfl rfl rfl rfl ?_
        refine TL'.passU (.off _ _ _ _ rfl rfl rfl rfl) (dl rfl rfl) ?_
        refine sp rfl (OpT.pickF rfl (dl rfl rfl) rfl rfl rfl ?_)
        refine asg rfl rfl rfl rfl rfl ?_
        refine TL'.nil (thenS_normal ?_)
        refine T.ret (inBlock_ret (thenS_ret ?_))
        exact Fin.done (.cons _ _ _ _ (.tmp 2 _ rfl) .nil) (by cases h; exact ⟨rfl, rfl⟩)
    · refine TL'.passU (.off _ _ _ _ rfl rfl rfl c_169) (dl rfl rfl) ?_
      refine TL'.passU (.off _ _ _ _ rfl rfl rfl c_169) (dl rfl rfl) ?_
      refine TL'.passU (.off _ _ _ _ rfl rfl rfl c_169) (dl rfl rfl) ?_
      refine TL'.passU (.off _ _ _ _ rfl rfl rfl c_169) (dl rfl rfl) ?_
      refine sp rfl (OpT.pickF rfl (dl rfl rfl) rfl c_169 rfl ?_)
      refine mv rfl rfl rfl rfl rfl ?_
      refine TL'.passU (.off _ _ _ _ rfl rfl rfl rfl) (dl rfl rfl) ?_
      refine TL'.passU (.off _ _ _ _ rfl rfl rfl rfl) (dl rfl rfl) ?_
      refine TL'.passU (.off _ _ _ _ rfl rfl rfl rfl) (dl rfl rfl) ?_
      refine sp rfl (OpT.pickF rfl (dl rfl rfl) rfl rfl rfl ?_)
      refine mv rfl rfl rfl rfl rfl ?_
      refine TL'.passU (.off _ _ _ _ rfl rfl rfl rfl) (dl rfl rfl) ?_
      refine TL'.passU (.off _ _ _ _ rfl rfl rfl rfl) (dl rfl rfl) ?_
      refine TL'.passU (.off _ _ _ _ rfl rfl rfl rfl) (dl rfl rfl) ?_
      refine sp rfl (OpT.pickF rfl (dl rfl rfl) rfl rfl rfl ?_)
      refine mv rfl rfl rfl rfl rfl ?_
      refine TL'.passU (.off _ _ _ _ rfl rfl rfl rfl) (dl rfl rfl) ?_
      refine sp rfl (OpT.pickF rfl (dl rfl rfl) rfl rfl rfl ?_)
      refine asg rfl rfl rfl rfl rfl ?_
      refine TL'.nil (thenS_normal ?_)
      refine T.ret (inBlock_ret (thenS_ret ?_))
      exact Fin.done (.cons _ _ _ _ (.tmp 2 _ rfl) .nil) (by cases h; exact ⟨rfl, rfl⟩)
  · refine TL'.passU (.off _ _ _ _ rfl rfl rfl c_168) (dl rfl rfl) ?_
    refine TL'.passU (.off _ _ _ _ rfl rfl rfl c_168) (dl rfl rfl) ?_
    refine sp rfl (OpT.pickF rfl (dl rfl rfl) rfl c_168 rfl ?_)
    refine mv rfl rfl rfl rfl rfl ?_
    refine TL'.passU (.off _ _ _ _ rfl rfl rfl rfl) (dl rfl rfl) ?_
    refine TL'.passU (.off _ _ _ _ rfl rfl rfl rfl) (dl rfl rfl) ?_
    refine TL'.passU (.off _ _ _ _ rfl rfl rfl rfl) (dl rfl rfl) ?_
    refine TL'.passU (.off _ _ _ _ rfl rfl rfl rfl) (dl rfl rfl) ?_
    refine sp rfl (OpT.pickF rfl (dl rfl rfl) rfl rfl rfl ?_)
    refine mv rfl rfl rfl rfl rfl ?_
    refine TL'.passU (.off _ _ _ _ rfl rfl rfl rfl) (dl rfl rfl) ?_
    refine TL'.passU (.off _ _ _ _ rfl rfl rfl rfl) (dl rfl rfl) ?_
    refine TL'.passU (.off _ _ _ _ rfl rfl rfl rfl) (dl rfl rfl) ?_
    refine sp rfl (OpT.pickF rfl (dl rfl rfl) rfl rfl rfl ?_)
    refine mv rfl rfl rfl rfl rfl ?_
    refine TL'.passU (.off _ _ _ _ rfl rfl rfl rfl) (dl rfl rfl) ?_
    refine TL'.passU (.off _ _ _ _ rfl rfl rfl rfl) (dl rfl rfl) ?_
    refine TL'.passU (.off _ _ _ _ rfl rfl rfl rfl) (dl rfl rfl) ?_
    refine sp rfl (OpT.pickF rfl (dl rfl rfl) rfl rfl rfl ?_)
    refine mv rfl rfl rfl rfl rfl ?_
    refine TL'.passU (.off _ _ _ _ rfl rfl rfl rfl) (dl rfl rfl) ?_
    refine sp rfl (OpT.pickF rfl (dl rfl rfl) rfl rfl rfl ?_)
    refine asg rfl rfl rfl rfl rfl ?_
    refine TL'.nil (thenS_normal ?_)
    refine T.ret (inBlock_ret (thenS_ret ?_))
    exact Fin.done (.cons _ _ _ _ (.tmp 2 _ rfl) .nil) (by cases h; exact ⟨rfl, rfl⟩)

theorem raddleref04_shape_j1_T {r : Bool} (K : Nat) (x3_0_6 : Bool) (x4_0_7 : Bool) (x5_1_8 : Bool) (x0 : api_Node) (x59_1_10 : Bool) (b1_1 : Nat) (h : raddleref04_shape_j1 K x3_0_6 x4_0_7 x5_1_8 x0 x59_1_10 = some r) : T Try.prog 144 (Code.at [1, 1, 1, 1, 0, 1, 0, 1, 1, 1, 1, 1] (codeOf Try.f26)) ⟨[(1, .ptr b1_1 0), (3, .bool x3_0_6), (4, .bool x4_0_7), (5, .bool x5_1_8), (23, .int .u8 x0.Op), (59, .bool x59_1_10)], [.box b1_1 36 [.d (.int .u8 x0.Op), .d (.int .u64 x0.S.a0), .d (.int .u64 x0.S.a1), .d (.int .u64 x0.S.a2), .d (.int .u64 x0.S.a3), .d (.sl false 1 (x0.L.map (cI .i64))), .d (.int .i64 x0.Lo), .d (.int .i64 x0.Hi), .d (.str x0.Name)]]⟩ (raddleref04_shape_qb0x11111 r) := by
  unfold raddleref04_shape_j1 at h
  rcases bif_some h with ⟨c_162, h⟩ | ⟨c_162, h⟩
  · refine T.condT rfl c_162 ?_
    refine T.seq ?_
    refine T.regionL ?_
    refine mv rfl rfl rfl rfl rfl ?_
    refine sp rfl (OpT.not rfl (dl rfl rfl) rfl ?_)
    refine mv rfl rfl rfl rfl rfl ?_
    rcases bif_some h with ⟨c_163, h⟩ | ⟨c_163, h⟩
    · refine TL'.step (.on rfl rfl rfl c_163) (OpT.move rfl (dl rfl rfl) rfl ?_)
      refine TL'.step (.on rfl rfl rfl c_163) (OpT.not rfl (dl rfl rfl) rfl ?_)
      refine sp rfl (OpT.pickT rfl (dl rfl rfl) rfl c_163 rfl ?_)
      refine mv rfl rfl rfl rfl rfl ?_
      rcases bif_some h with ⟨c_164, h⟩ | ⟨c_164, h⟩
      · refine TL'.step (.on rfl rfl rfl c_164) (OpT.move rfl (dl rfl rfl) rfl ?_)
        refine TL'.step (.on rfl rfl rfl c_164) (OpT.not rfl (dl rfl rfl) rfl ?_)
        refine sp rfl (OpT.pickT rfl (dl rfl rfl) rfl c_164 rfl ?_)
        refine mv rfl rfl rfl rfl rfl ?_
        rcases bif_some h with ⟨c_165, h⟩ | ⟨c_165, h⟩
        · refine TL'.step (.on rfl rfl rfl c_165) (OpT.fieldPtr rfl (dl rfl rfl) Try.underlying36 rfl i34 (by decide) rfl ?_)
          refine TL'.step (.on rfl rfl rfl c_165) (OpT.loadBox (i := 0) rfl (dl rfl rfl) Try.underlying34 rfl rfl rfl rfl ?_)
          refine TL'.step (.on rfl rfl rfl c_165) (OpT.lenSlM (xs := x0.L) (f := (cI .i64)) rfl (dl rfl rfl) Try.underlying34 rfl ?_)
          refine TL'.step (.on rfl rfl rfl c_165) (OpT.int2 rfl rfl (dl rfl rfl) rfl rfl ?_)
          refine sp rfl (OpT.pickT rfl (dl rfl rfl) rfl c_165 rfl ?_)
          refine asg rfl rfl rfl rfl rfl ?_
          refine TL'.nil (thenS_normal ?_)
          refine T.ret (inBlock_ret (thenS_ret ?_))
          exact Fin.done (.cons _ _ _ _ (.tmp 2 _ rfl) .nil) (by cases h; exact ⟨rfl, rfl⟩)
        · refine TL'.passU (.off _ _ _ _ rfl rfl rfl c_165) (dl rfl rfl) ?_
          refine TL'.passU (.off _ _ _ _ rfl rfl rfl c_165) (dl rfl rfl) ?_
          refine TL'.passU (.off _ _ _ _ rfl rfl rfl c_165) (dl rfl rfl) ?_
          refine TL'.passU (.off _ _ _ _ rfl rfl rfl c_165) (dl rfl rfl) ?_
          refine sp rfl (OpT.pickF rfl (dl rfl rfl) rfl c_165 rfl ?_)
          refine asg rfl rfl rfl rfl rfl ?_
          refine TL'.nil (thenS_normal ?_)
          refine T.ret (inBlock_ret (thenS_ret ?_))
          exact Fin.done (.cons _ _ _ _ (.tmp 2 _ rfl) .nil) (by cases h; exact ⟨rfl, rfl⟩)
      · refine TL'.passU (.off _ _ _ _ rfl rfl rfl c_164) (dl rfl rfl) ?_
        refine TL'.passU (.off _ _ _ _ rfl rfl rfl c_164) (dl rfl rfl) ?_
        refine sp rfl (OpT.pickF rfl (dl rfl rfl) rfl c_164 rfl ?_)
        refine mv rfl rfl rfl rfl rfl ?_
        refine TL'.passU (.off _ _ _ _ rfl rfl rfl rfl) (dl rfl rfl) ?_
        refine TL'.passU (.off _ _ _ _ rfl rfl rfl rfl) (dl rfl rfl) ?_
        refine TL'.passU (.off _ _ _ _ rfl rfl rfl rfl) (dl rfl rfl) ?_
        refine TL'.passU (.off _ _ _ _ rfl rfl rfl rfl) (dl rfl rfl) ?_
        refine sp rfl (OpT.pickF rfl (dl rfl rfl) rfl rfl rfl ?_)
        refine asg rfl rfl rfl rfl rfl ?_
        refine TL'.nil (thenS_normal ?_)
        refine T.ret (inBlock_ret (thenS_ret ?_))
        exact Fin.done (.cons _ _ _ _ (.tmp 2 _ rfl) .nil) (by cases h; exact ⟨rfl, rfl⟩)
    · refine TL'.passU (.off _ _ _ _ rfl rfl rfl c_163) (dl rfl rfl) ?_
      refine TL'.passU (.off _ _ _ _ rfl rfl rfl c_163) (dl rfl rfl) ?_
      refine sp rfl (OpT.pickF rfl (dl rfl rfl) rfl c_163 rfl ?_)
      refine mv rfl rfl rfl rfl rfl ?_
      refine TL'.passU (.off _ _ _ _ rfl rfl rfl rfl) (dl rfl rfl) ?_
      refine TL'.passU (.off _ _ _ _ rfl rfl rfl rfl) (dl rfl rfl) ?_
      refine sp rfl (OpT.pickF rfl (dl rfl rfl) rfl rfl rfl ?_)
      refine mv rfl rfl rfl rfl rfl ?_
      refine TL'.passU (.off _ _ _ _ rfl rfl rfl rfl) (dl rfl rfl) ?_
      refine TL'.passU (.off _ _ _ _ rfl rfl rfl rfl) (dl rfl rfl) ?_
      refine TL'.passU (.off _ _ _ _ rfl rfl rfl rfl) (dl rfl rfl) ?_
      refine TL'.passU (.off _ _ _ _ rfl rfl rfl rfl) (dl rfl rfl) ?_
      refine sp rfl (OpT.pickF rfl (dl rfl rfl) rfl rfl rfl ?_)
      refine asg rfl rfl rfl rfl rfl ?_
      refine TL'.nil (thenS_normal ?_)
      refine T.ret (inBlock_ret (thenS_ret ?_))
      exact Fin.done (.cons _ _ _ _ (.tmp 2 _ rfl) .nil) (by cases h; exact ⟨rfl, rfl⟩)
  · refine T.condF rfl c_162 ?_
    refine T.seq ?_
    refine T.regionL ?_
    refine sp rfl (OpT.int2 rfl rfl (dl rfl rfl) rfl rfl ?_)
    refine asg rfl rfl rfl rfl rfl ?_
    refine TL'.nil (thenS_normal ?_)
    rcases bif_some h with ⟨c_166, h⟩ | ⟨c_166, h⟩
    · refine T.condT rfl c_166 ?_
      refine T.seq ?_
      refine T.regionL ?_
      refine sp rfl (OpT.fieldPtr rfl (dl rfl rfl) Try.underlying36 rfl i3 (by decide) rfl ?_)
      refine sp rfl (OpT.loadBox (i := 0) rfl (dl rfl rfl) Try.underlying3 rfl rfl rfl rfl ?_)
      refine sp rfl (OpT.int2 rfl rfl (dl rfl rfl) rfl rfl ?_)
      refine mv rfl rfl rfl rfl rfl ?_
      rcases bif_some h with ⟨c_167, h⟩ | ⟨c_167, h⟩
      · refine TL'.passU (.off _ _ _ _ rfl rfl rfl c_167) (dl rfl rfl) ?_
        refine TL'.passU (.off _ _ _ _ rfl rfl rfl c_167) (dl rfl rfl) ?_
        refine TL'.passU (.off _ _ _ _ rfl rfl rfl c_167) (dl rfl rfl) ?_
        refine TL'.passU (.off _ _ _ _ rfl rfl rfl c_167) (dl rfl rfl) ?_
        refine TL'.passU (.gone _ _ _ rfl rfl rfl) (dl rfl rfl) ?_
        refine TL'.passU (.gone _ _ _ rfl rfl rfl) (dl rfl rfl) ?_
        refine TL'.passU (.gone _ _ _ rfl rfl rfl) (dl rfl rfl) ?_
        refine TL'.passU (.off _ _ _ _ rfl rfl rfl c_167) (dl rfl rfl) ?_
        refine TL'.passU (.off _ _ _ _ rfl rfl rfl c_167) (dl rfl rfl) ?_
        refine TL'.passU (.gone _ _ _ rfl rfl rfl) (dl rfl rfl) ?_
        refine TL'.passU (.gone _ _ _ rfl rfl rfl) (dl rfl rfl) ?_
        refine TL'.passU (.gone _ _ _ rfl rfl rfl) (dl rfl rfl) ?_
        refine TL'.passU (.gone _ _ _ rfl rfl rfl) (dl rfl rfl) ?_
        refine TL'.passU (.gone _ _ _ rfl rfl rfl) (dl rfl rfl) ?_
        refine TL'.passU (.off _ _ _ _ rfl rfl rfl c_167) (dl rfl rfl) ?_
        refine sp rfl (OpT.pickT rfl (dl rfl rfl) rfl c_167 rfl ?_)
        refine asg rfl rfl rfl rfl rfl ?_
        refine TL'.nil (thenS_normal ?_)
        refine T.by_turn ?_ (raddleref04_shape_j2_T K x3_0_6 x5_1_8 true x0 b1_1 h)
        exact Turn.rp (.cons rfl (.cons rfl (.cons rfl (.cons rfl (.nil _))))) (.c .z (.n _))
      · refine TL'.step (.on rfl rfl rfl c_167) (OpT.fieldPtr rfl (dl rfl rfl) Try.underlying36 rfl i3 (by decide) rfl ?_)
        refine TL'.step (.on rfl rfl rfl c_167) (OpT.loadBox (i := 0) rfl (dl rfl rfl) Try.underlying3 rfl rfl rfl rfl ?_)
        refine TL'.step (.on rfl rfl rfl c_167) (OpT.int2 rfl rfl (dl rfl rfl) rfl rfl ?_)
        refine TL'.step (.on rfl rfl rfl c_167) (OpT.move rfl (dl rfl rfl) rfl ?_)
        rcases bif_some h with ⟨c_173, h⟩ | ⟨c_173, h⟩
        · refine TL'.step (.on rfl rfl rfl c_173) (OpT.fieldPtr rfl (dl rfl rfl) Try.underlying36 rfl i3 (by decide) rfl ?_)
          refine TL'.step (.on rfl rfl rfl c_173) (OpT.loadBox (i := 0) rfl (dl rfl rfl) Try.underlying3 rfl rfl rfl rfl ?_)
          refine TL'.step (.on rfl rfl rfl c_173) (OpT.int2 rfl rfl (dl rfl rfl) rfl rfl ?_)
          refine TL'.step (.on rfl rfl rfl c_167) (OpT.pickT rfl (dl rfl rfl) rfl c_173 rfl ?_)
          refine TL'.step (.on rfl rfl rfl c_167) (OpT.move rfl (dl rfl rfl) rfl ?_)
          rcases bif_some h with ⟨c_174, h⟩ | ⟨c_174, h⟩
          · refine TL'.step (.on rfl rfl rfl c_174) (OpT.fieldPtr rfl (dl rfl rfl) Try.underlying36 rfl i3 (by decide) rfl ?_)
            refine TL'.step (.on rfl rfl rfl c_174) (OpT.loadBox (i := 0) rfl (dl rfl rfl) Try.underlying3 rfl rfl rfl rfl ?_)
            refine TL'.step (.on rfl rfl rfl c_174) (OpT.fieldPtr rfl (dl rfl rfl) Try.underlying36 rfl i3 (by decide) rfl ?_)
            refine TL'.step (.on rfl rfl rfl c_174) (OpT.loadBox (i := 0) rfl (dl rfl rfl) Try.underlying3 rfl rfl rfl rfl ?_)
            refine TL'.step (.on rfl rfl rfl c_174) (OpT.int2 rfl rfl (dl rfl rfl) rfl rfl ?_)
            refine TL'.step (.on rfl rfl rfl c_167) (OpT.pickT rfl (dl rfl rfl) rfl c_174 rfl ?_)
            refine sp rfl (OpT.pickF rfl (dl rfl rfl) rfl c_167 rfl ?_)
            refine asg rfl rfl rfl rfl rfl ?_
            refine TL'.nil (thenS_normal ?_)
            refine T.by_turn ?_ (raddleref04_shape_j2_T K x3_0_6 x5_1_8 (decide (x0.Hi ≥ x0.Lo)) x0 b1_1 h)
            exact Turn.rp (.cons rfl (.cons rfl (.cons rfl (.cons rfl (.nil _))))) (.c .z (.n _))
          · refine TL'.passU (.off _ _ _ _ rfl rfl rfl c_174) (dl rfl rfl) ?_
            refine TL'.passU (.off _ _ _ _ rfl rfl rfl c_174) (dl rfl rfl) ?_
            refine TL'.passU (.off _ _ _ _ rfl rfl rfl c_174) (dl rfl rfl) ?_
            refine TL'.passU (.off _ _ _ _ rfl rfl rfl c_174) (dl rfl rfl) ?_
            refine TL'.passU (.off _ _ _ _ rfl rfl rfl c_174) (dl rfl rfl) ?_
            refine TL'.step (.on rfl rfl rfl c_167) (OpT.pickF rfl (dl rfl rfl) rfl c_174 rfl ?_)
            refine sp rfl (OpT.pickF rfl (dl rfl rfl) rfl c_167 rfl ?_)
            refine asg rfl rfl rfl rfl rfl ?_
            refine TL'.nil (thenS_normal ?_)
            refine T.by_turn ?_ (raddleref04_shape_j2_T K x3_0_6 x5_1_8 false x0 b1_1 h)
            exact Turn.rp (.cons rfl (.cons rfl (.cons rfl (.cons rfl (.nil _))))) (.c .z (.n _))
        · refine TL'.passU (.off _ _ _ _ rfl rfl rfl c_173) (dl rfl rfl) ?_
          refine TL'.passU (.off _ _ _ _ rfl rfl rfl c_173) (dl rfl rfl) ?_
          refine TL'.passU (.off _ _ _ _ rfl rfl rfl c_173) (dl rfl rfl) ?_
          refine TL'.step (.on rfl rfl rfl c_167) (OpT.pickF rfl (dl rfl rfl) rfl c_173 rfl ?_)
          refine TL'.step (.on rfl rfl rfl c_167) (OpT.move rfl (dl rfl rfl) rfl ?_)
          refine TL'.passU (.off _ _ _ _ rfl rfl rfl rfl) (dl rfl rfl) ?_
          refine TL'.passU (.off _ _ _ _ rfl rfl rfl rfl) (dl rfl rfl) ?_
          refine TL'.passU (.off _ _ _ _ rfl rfl rfl rfl) (dl rfl rfl) ?_
          refine TL'.passU (.off _ _ _ _ rfl rfl rfl rfl) (dl rfl rfl) ?_
          refine TL'.passU (.off _ _ _ _ rfl rfl rfl rfl) (dl rfl rfl) ?_
          refine TL'.step (.on rfl rfl rfl c_167) (OpT.pickF rfl (dl rfl rfl) rfl rfl rfl ?_)
          refine sp rfl (OpT.pickF rfl (dl rfl rfl) rfl c_167 rfl ?_)
          refine asg rfl rfl rfl rfl rfl ?_
          refine TL'.nil (thenS_normal ?_)
          refine T.by_turn ?_ (raddleref04_shape_j2_T K x3_0_6 x5_1_8 false x0 b1_1 h)
          exact Turn.rp (.cons rfl (.cons rfl (.cons rfl (.cons rfl (.nil _))))) (.c .z (.n _))
    · refine T.condF rfl c_166 ?_
      refine T.seq ?_
      refine T.regionL ?_
      refine sp rfl (OpT.int2 rfl rfl (dl rfl rfl) rfl rfl ?_)
      refine asg rfl rfl rfl rfl rfl ?_
      refine TL'.nil (thenS_normal ?_)
      rcases bif_some h with ⟨c_175, h⟩ | ⟨c_175, h⟩
      · refine T.condT rfl c_175 ?_
        refine T.seq ?_
        refine T.regionL ?_
        refine mv rfl rfl rfl rfl rfl ?_
        refine sp rfl (OpT.not rfl (dl rfl rfl) rfl ?_)
        refine mv rfl rfl rfl rfl rfl ?_
        rcases bif_some h with ⟨c_176, h⟩ | ⟨c_176, h⟩
        · refine TL'.step (.on rfl rfl rfl c_176) (OpT.move rfl (dl rfl rfl) rfl ?_)
          refine TL'.step (.on rfl rfl rfl c_176) (OpT.not rfl (dl rfl rfl) rfl ?_)
          refine sp rfl (OpT.pickT rfl (dl rfl rfl) rfl c_176 rfl ?_)
          refine mv rfl rfl rfl rfl rfl ?_
          rcases bif_some h with ⟨c_177, h⟩ | ⟨c_177, h⟩
          · refine TL'.step (.on rfl rfl rfl c_177) (OpT.fieldPtr rfl (dl rfl rfl) Try.underlying36 rfl i9 (by decide) rfl ?_)
            refine TL'.step (.on rfl rfl rfl c_177) (OpT.loadBox (i := 0) rfl (dl rfl rfl) Try.underlying9 rfl rfl rfl rfl ?_)
            obtain ⟨v_178, e_179, h⟩ := bind_some h
            refine TL'.step (.on rfl rfl rfl c_177) (OpT.callPA rfl (dl rfl rfl) Try.func32 rfl rfl (Args.cons rfl Args.nil) (CallR.nil (raddleref04_Name_T K e_179)) ?_)
            refine sp rfl (OpT.pickT rfl (dl rfl rfl) rfl c_177 rfl ?_)
            refine mv rfl rfl rfl rfl rfl ?_
            rcases bif_some h with ⟨c_180, h⟩ | ⟨c_180, h⟩
            · refine TL'.step (.on rfl rfl rfl c_180) (OpT.fieldPtr rfl (dl rfl rfl) Try.underlying36 rfl i34 (by decide) rfl ?_)
              refine TL'.step (.on rfl rfl rfl c_180) (OpT.loadBox (i := 0) rfl (dl rfl rfl) Try.underlying34 rfl rfl rfl rfl ?_)
              refine TL'.step (.on rfl rfl rfl c_180) (OpT.lenSlM (xs := x0.L) (f := (cI .i64)) rfl (dl rfl rfl) Try.underlying34 rfl ?_)
              refine TL'.step (.on rfl rfl rfl c_180) (OpT.int2 rfl rfl (dl rfl rfl) rfl rfl ?_)
              refine sp rfl (OpT.pickT rfl (dl rfl rfl) rfl c_180 rfl ?_)
              refine asg rfl rfl rfl rfl rfl ?_
              refine TL'.nil (thenS_normal ?_)
              refine T.ret (inBlock_ret (thenS_ret ?_))
              exact Fin.done (.cons _ _ _ _ (.tmp 2 _ rfl) .nil) (by cases h; exact ⟨rfl, rfl⟩)
            · refine TL'.passU (.off _ _ _ _ rfl rfl rfl c_180) (dl rfl rfl) ?_
              refine TL'.passU (.off _ _ _ _ rfl rfl rfl c_180) (dl rfl rfl) ?_
              refine TL'.passU (.off _ _ _ _ rfl rfl rfl c_180) (dl rfl rfl) ?_
              refine TL'.passU (.off _ _ _ _ rfl rfl rfl c_180) (dl rfl rfl) ?_
              refine sp rfl (OpT.pickF rfl (dl rfl rfl) rfl c_180 rfl ?_)
              refine asg rfl rfl rfl rfl rfl ?_
              refine TL'.nil (thenS_normal ?_)
              refine T.ret (inBlock_ret (thenS_ret ?_))
              exact Fin.done (.cons _ _ _ _ (.tmp 2 _ rfl) .nil) (by cases h; exact ⟨rfl, rfl⟩)
          · refine TL'.passU (.off _ _ _ _ rfl rfl rfl c_177) (dl rfl rfl) ?_
            refine TL'.passU (.off _ _ _ _ rfl rfl rfl c_177) (dl rfl rfl) ?_
            refine TL'.passU (.off _ _ _ _ rfl rfl rfl c_177) (dl rfl rfl) ?_
            refine sp rfl (OpT.pickF rfl (dl rfl rfl) rfl c_177 rfl ?_)
            refine mv rfl rfl rfl rfl rfl ?_
            refine TL'.passU (.off _ _ _ _ rfl rfl rfl rfl) (dl rfl rfl) ?_
            refine TL'.passU (.off _ _ _ _ rfl rfl rfl rfl) (dl rfl rfl) ?_
            refine TL'.passU (.off _ _ _ _ rfl rfl rfl rfl) (dl rfl rfl) ?_
            refine TL'.passU (.off _ _ _ _ rfl rfl rfl rfl) (dl rfl rfl) ?_
            refine sp rfl (OpT.pickF rfl (dl rfl rfl) rfl rfl rfl ?_)
            refine asg rfl rfl rfl rfl rfl ?_
            refine TL'.nil (thenS_normal ?_)
            refine T.ret (inBlock_ret (thenS_ret ?_))
            exact Fin.done (.cons _ _ _ _ (.tmp 2 _ rfl) .nil) (by cases h; exact ⟨rfl, rfl⟩)
        · refine TL'.passU (.off _ _ _ _ rfl rfl rfl c_176) (dl rfl rfl) ?_
          refine TL'.passU (.off _ _ _ _ rfl rfl rfl c_176) (dl rfl rfl) ?_
          refine sp rfl (OpT.pickF rfl (dl rfl rfl) rfl c_176 rfl ?_)
          refine mv rfl rfl rfl rfl rfl ?_
          refine TL'.passU (.off _ _ _ _ rfl rfl rfl rfl) (dl rfl rfl) ?_
          refine TL'.passU (.off _ _ _ _ rfl rfl rfl rfl) (dl rfl rfl) ?_
          refine TL'.passU (.off _ _ _ _ rfl rfl rfl rfl) (dl rfl rfl) ?_
          refine sp rfl (OpT.pickF rfl (dl rfl rfl) rfl rfl rfl ?_)
          refine mv rfl rfl rfl rfl rfl ?_
          refine TL'.passU (.off _ _ _ _ rfl rfl rfl rfl) (dl rfl rfl) ?_
          refine TL'.passU (.off _ _ _ _ rfl rfl rfl rfl) (dl rfl rfl) ?_
          refine TL'.passU (.off _ _ _ _ rfl rfl rfl rfl) (dl rfl rfl) ?_
          refine TL'.passU (.off _ _ _ _ rfl rfl rfl rfl) (dl rfl rfl) ?_
          refine sp rfl (OpT.pickF rfl (dl rfl rfl) rfl rfl rfl ?_)
          refine asg rfl rfl rfl rfl rfl ?_
          refine TL'.nil (thenS_normal ?_)
          refine T.ret (inBlock_ret (thenS_ret ?_))
          exact Fin.done (.cons _ _ _ _ (.tmp 2 _ rfl) .nil) (by cases h; exact ⟨rfl, rfl⟩)
      · refine T.condF rfl c_175 ?_
        refine T.skip (inBlock_normal (thenS_normal ?_))
        refine T.seq ?_
        refine T.regionL ?_
        refine asg rfl rfl rfl rfl rfl ?_
        refine TL'.nil (thenS_normal ?_)
        refine T.ret ?_
        exact Fin.done (.cons _ _ _ _ (.tmp 2 _ rfl) .nil) (by cases h; exact ⟨rfl, rfl⟩)

theorem raddleref04_shape_j0_T {r : Bool} (K : Nat) (x3_0_6 : Bool) (x4_0_7 : Bool) (x0 : api_Node) (b1_0 : Nat) (h : raddleref04_shape_j0 K x3_0_6 x4_0_7 x0 = some r) : T Try.prog 144 (Code.at [1, 1, 1] (codeOf Try.f26)) ⟨[(1, .ptr b1_0 0), (3, .bool x3_0_6), (4, .bool x4_0_7)], [.box b1_0 36 [.d (.int .u8 x0.Op), .d (.int .u64 x0.S.a0), .d (.int .u64 x0.S.a1), .d (.int .u64 x0.S.a2), .d (.int .u64 x0.S.a3), .d (.sl false 1 (x0.L.map (cI .i64))), .d (.int .i64 x0.Lo), .d (.int .i64 x0.Hi), .d (.str x0.Name)]]⟩ (raddleref04_shape_q r) := by
  unfold raddleref04_shape_j0 at h
  refine T.seq ?_
  refine T.regionL ?_
  refine sp rfl (OpT.fieldPtr rfl (dl rfl rfl) Try.underlying36 rfl i9 (by decide) rfl ?_)
  refine sp rfl (OpT.loadBox (i := 0) rfl (dl rfl rfl) Try.underlying9 rfl rfl rfl rfl ?_)
  refine sp rfl (OpT.str_neq rfl (dl rfl rfl) rfl rfl ?_)
  refine asg rfl rfl rfl rfl rfl ?_
  refine TL'.nil (thenS_normal ?_)
  refine T.seq ?_
  refine T.seq ?_
  refine T.regionL ?_
  refine sp rfl (OpT.fieldPtr rfl (dl rfl rfl) Try.underlying36 rfl i5 (by decide) rfl ?_)
  refine sp rfl (OpT.loadBox (i := 0) rfl (dl rfl rfl) Try.underlying5 rfl rfl rfl rfl ?_)
  refine TL'.nil (thenS_normal ?_)
  refine T.block ?_
  refine T.seq ?_
  refine T.regionL ?_
  refine sp rfl (OpT.int2 rfl rfl (dl rfl rfl) rfl rfl ?_)
  refine asg rfl rfl rfl rfl rfl ?_
  refine TL'.nil (thenS_normal ?_)
  rcases bif_some h with ⟨c_153, h⟩ | ⟨c_153, h⟩
  · refine T.condT rfl c_153 ?_
    refine T.seq ?_
    refine T.regionL ?_
    refine mv rfl rfl rfl rfl rfl ?_
    refine sp rfl (OpT.not rfl (dl rfl rfl) rfl ?_)
    refine mv rfl rfl rfl rfl rfl ?_
    rcases bif_some h with ⟨c_154, h⟩ | ⟨c_154, h⟩
    · refine TL'.step (.on rfl rfl rfl c_154) (OpT.move rfl (dl rfl rfl) rfl ?_)
      refine TL'.step (.on rfl rfl rfl c_154) (OpT.not rfl (dl rfl rfl) rfl ?_)
      refine sp rfl (OpT.pickT rfl (dl rfl rfl) rfl c_154 rfl ?_)
      refine mv rfl rfl rfl rfl rfl ?_
      rcases bif_some h with ⟨c_155, h⟩ | ⟨c_155, h⟩
      · refine TL'.step (.on rfl rfl rfl c_155) (OpT.move rfl (dl rfl rfl) rfl ?_)
        refine TL'.step (.on rfl rfl rfl c_155) (OpT.not rfl (dl rfl rfl) rfl ?_)
        refine sp rfl (OpT.pickT rfl (dl rfl rfl) rfl c_155 rfl ?_)
        refine mv rfl rfl rfl rfl rfl ?_
        rcases bif_some h with ⟨c_156, h⟩ | ⟨c_156, h⟩
        · refine TL'.step (.on rfl rfl rfl c_156) (OpT.fieldPtr rfl (dl rfl rfl) Try.underlying36 rfl i34 (by decide) rfl ?_)
          refine TL'.step (.on rfl rfl rfl c_156) (OpT.loadBox (i := 0) rfl (dl rfl rfl) Try.underlying34 rfl rfl rfl rfl ?_)
          refine TL'.step (.on rfl rfl rfl c_156) (OpT.lenSlM (xs := x0.L) (f := (cI .i64)) rfl (dl rfl rfl) Try.underlying34 rfl ?_)
          refine TL'.step (.on rfl rfl rfl c_156) (OpT.int2 rfl rfl (dl rfl rfl) rfl rfl ?_)
          refine sp rfl (OpT.pickT rfl (dl rfl rfl) rfl c_156 rfl ?_)
          refine asg rfl rfl rfl rfl rfl ?_
          refine TL'.nil (thenS_normal ?_)
          refine T.ret (inBlock_ret (thenS_ret ?_))
          exact Fin.done (.cons _ _ _ _ (.tmp 2 _ rfl) .nil) (by cases h; exact ⟨rfl, rfl⟩)
        · refine TL'.passU (.off _ _ _ _ rfl rfl rfl c_156) (dl rfl rfl) ?_
          refine TL'.passU (.off _ _ _ _ rfl rfl rfl c_156) (dl rfl rfl) ?_
          refine TL'.passU (.off _ _ _ _ rfl rfl rfl c_156) (dl rfl rfl) ?_
          refine TL'.passU (.off _ _ _ _ rfl rfl rfl c_156) (dl rfl rfl) ?_
          refine sp rfl (OpT.pickF rfl (dl rfl rfl) rfl c_156 rfl ?_)
          refine asg rfl rfl rfl rfl rfl ?_
          refine TL'.nil (thenS_normal ?_)
          refine T.ret (inBlock_ret (thenS_ret ?_))
          exact Fin.done (.cons _ _ _ _ (.tmp 2 _ rfl) .nil) (by cases h; exact ⟨rfl, rfl⟩)
      · refine TL'.passU (.off _ _ _ _ rfl rfl rfl c_155) (dl rfl rfl) ?_
        refine TL'.passU (.off _ _ _ _ rfl rfl rfl c_155) (dl rfl rfl) ?_
        refine sp rfl (OpT.pickF rfl (dl rfl rfl) rfl c_155 rfl ?_)
        refine mv rfl rfl rfl rfl rfl ?_
        refine TL'.passU (.off _ _ _ _ rfl rfl rfl rfl) (dl rfl rfl) ?_
        refine TL'.passU (.off _ _ _ _ rfl rfl rfl rfl) (dl rfl rfl) ?_
        refine TL'.passU (.off _ _ _ _ rfl rfl rfl rfl) (dl rfl rfl) ?_
        refine TL'.passU (.off _ _ _ _ rfl rfl rfl rfl) (dl rfl rfl) ?_
        refine sp rfl (OpT.pickF rfl (dl rfl rfl) rfl rfl rfl ?_)
        refine asg rfl rfl rfl rfl rfl ?_
        refine TL'.nil (thenS_normal ?_)
        refine T.ret (inBlock_ret (thenS_ret ?_))
        exact Fin.done (.cons _ _ _ _ (.tmp 2 _ rfl) .nil) (by cases h; exact ⟨rfl, rfl⟩)
    · refine TL'.passU (.off _ _ _ _ rfl rfl rfl c_154) (dl rfl rfl) ?_
      refine TL'.passU (.off _ _ _ _ rfl rfl rfl c_154) (dl rfl rfl) ?_
      refine sp rfl (OpT.pickF rfl (dl rfl rfl) rfl c_154 rfl ?_)
      refine mv rfl rfl rfl rfl rfl ?_
      refine TL'.passU (.off _ _ _ _ rfl rfl rfl rfl) (dl rfl rfl) ?_
      refine TL'.passU (.off _ _ _ _ rfl rfl rfl rfl) (dl rfl rfl) ?_
      refine sp rfl (OpT.pickF rfl (dl rfl rfl) rfl rfl rfl ?_)
      refine mv rfl rfl rfl rfl rfl ?_
      refine TL'.passU (.off _ _ _ _ rfl rfl rfl rfl) (dl rfl rfl) ?_
      refine TL'.passU (.off _ _ _ _ rfl rfl rfl rfl) (dl rfl rfl) ?_
      refine TL'.passU (.off _ _ _ _ rfl rfl rfl rfl) (dl rfl rfl) ?_
      refine TL'.passU (.off _ _ _ _ rfl rfl rfl rfl) (dl rfl rfl) ?_
      refine sp rfl (OpT.pickF rfl (dl rfl rfl) rfl rfl rfl ?_)
      refine asg rfl rfl rfl rfl rfl ?_
      refine TL'.nil (thenS_normal ?_)
      refine T.ret (inBlock_ret (thenS_ret ?_))
      exact Fin.done (.cons _ _ _ _ (.tmp 2 _ rfl) .nil) (by cases h; exact ⟨rfl, rfl⟩)
  · refine T.condF rfl c_153 ?_
    refine T.seq ?_
    refine T.regionL ?_
    refine sp rfl (OpT.int2 rfl rfl (dl rfl rfl) rfl rfl ?_)
    refine asg rfl rfl rfl rfl rfl ?_
    refine TL'.nil (thenS_normal ?_)
    rcases bif_some h with ⟨c_157, h⟩ | ⟨c_157, h⟩
    · refine T.condT rfl c_157 ?_
      refine T.seq ?_
      refine T.regionL ?_
      refine mv rfl rfl rfl rfl rfl ?_
      refine mv rfl rfl rfl rfl rfl ?_
      rcases bif_some h with ⟨c_158, h⟩ | ⟨c_158, h⟩
      · refine TL'.step (.on rfl rfl rfl c_158) (OpT.move rfl (dl rfl rfl) rfl ?_)
        refine TL'.step (.on rfl rfl rfl c_158) (OpT.not rfl (dl rfl rfl) rfl ?_)
        refine sp rfl (OpT.pickT rfl (dl rfl rfl) rfl c_158 rfl ?_)
        refine mv rfl rfl rfl rfl rfl ?_
        rcases bif_some h with ⟨c_159, h⟩ | ⟨c_159, h⟩
        · refine TL'.step (.on rfl rfl rfl c_159) (OpT.move rfl (dl rfl rfl) rfl ?_)
          refine TL'.step (.on rfl rfl rfl c_159) (OpT.not rfl (dl rfl rfl) rfl ?_)
          refine sp rfl (OpT.pickT rfl (dl rfl rfl) rfl c_159 rfl ?_)
          refine mv rfl rfl rfl rfl rfl ?_
          rcases bif_some h with ⟨c_160, h⟩ | ⟨c_160, h⟩
          · refine TL'.step (.on rfl rfl rfl c_160) (OpT.fieldPtr rfl (dl rfl rfl) Try.underlying36 rfl i34 (by decide) rfl ?_)
            refine TL'.step (.on rfl rfl rfl c_160) (OpT.loadBox (i := 0) rfl (dl rfl rfl) Try.underlying34 rfl rfl rfl rfl ?_)
            refine TL'.step (.on rfl rfl rfl c_160) (OpT.lenSlM (xs := x0.L) (f := (cI .i64)) rfl (dl rfl rfl) Try.underlying34 rfl ?_)
            refine TL'.step (.on rfl rfl rfl c_160) (OpT.int2 rfl rfl (dl rfl rfl) rfl rfl ?_)
            refine sp rfl (OpT.pickT rfl (dl rfl rfl) rfl c_160 rfl ?_)
            refine asg rfl rfl rfl rfl rfl ?_
            refine TL'.nil (thenS_normal ?_)
            refine T.ret (inBlock_ret (thenS_ret ?_))
            exact Fin.done (.cons _ _ _ _ (.tmp 2 _ rfl) .nil) (by cases h; exact ⟨rfl, rfl⟩)
          · refine TL'.passU (.off _ _ _ _ rfl rfl rfl c_160) (dl rfl rfl) ?_
            refine TL'.passU (.off _ _ _ _ rfl rfl rfl c_160) (dl rfl rfl) ?_
            refine TL'.passU (.off _ _ _ _ rfl rfl rfl c_160) (dl rfl rfl) ?_
            refine TL'.passU (.off _ _ _ _ rfl rfl rfl c_160) (dl rfl rfl) ?_
            refine sp rfl (OpT.pickF rfl (dl rfl rfl) rfl c_160 rfl ?_)
            refine asg rfl rfl rfl rfl rfl ?_
            refine TL'.nil (thenS_normal ?_)
            refine T.ret (inBlock_ret (thenS_ret ?_))
            exact Fin.done (.cons _ _ _ _ (.tmp 2 _ rfl) .nil) (by cases h; exact ⟨rfl, rfl⟩)
        · refine TL'.passU (.off _ _ _ _ rfl rfl rfl c_159) (dl rfl rfl) ?_
          refine TL'.passU (.off _ _ _ _ rfl rfl rfl c_159) (dl rfl rfl) ?_
          refine sp rfl (OpT.pickF rfl (dl rfl rfl) rfl c_159 rfl ?_)
          refine mv rfl rfl rfl rfl rfl ?_
          refine TL'.passU (.off _ _ _ _ rfl rfl rfl rfl) (dl rfl rfl) ?_
          refine TL'.passU (.off _ _ _ _ rfl rfl rfl rfl) (dl rfl rfl) ?_
          refine TL'.passU (.off _ _ _ _ rfl rfl rfl rfl) (dl rfl rfl) ?_
          refine TL'.passU (.off _ _ _ _ rfl rfl rfl rfl) (dl rfl rfl) ?_
          refine sp rfl (OpT.pickF rfl (dl rfl rfl) rfl rfl rfl ?_)
          refine asg rfl rfl rfl rfl rfl ?_
          refine TL'.nil (thenS_normal ?_)
          refine T.ret (inBlock_ret (thenS_ret ?_))
          exact Fin.done (.cons _ _ _ _ (.tmp 2 _ rfl) .nil) (by cases h; exact ⟨rfl, rfl⟩)
      · refine TL'.passU (.off _ _ _ _ rfl rfl rfl c_158) (dl rfl rfl) ?_
        refine TL'.passU (.off _ _ _ _ rfl rfl rfl c_158) (dl rfl rfl) ?_
        refine sp rfl (OpT.pickF rfl (dl rfl rfl) rfl c_158 rfl ?_)
        refine mv rfl rfl rfl rfl rfl ?_
        refine TL'.passU (.off _ _ _ _ rfl rfl rfl rfl) (dl rfl rfl) ?_
        refine TL'.passU (.off _ _ _ _ rfl rfl rfl rfl) (dl rfl rfl) ?_
        refine sp rfl (OpT.pickF rfl (dl rfl rfl) rfl rfl rfl ?_)
        refine mv rfl rfl rfl rfl rfl ?_
        refine TL'.passU (.off _ _ _ _ rfl rfl rfl rfl) (dl rfl rfl) ?_
        refine TL'.passU (.off _ _ _ _ rfl rfl rfl rfl) (dl rfl rfl) ?_
        refine TL'.passU (.off _ _ _ _ rfl rfl rfl rfl) (dl rfl rfl) ?_
        refine TL'.passU (.off _ _ _ _ rfl rfl rfl rfl) (dl rfl rfl) ?_
        refine sp rfl (OpT.pickF rfl (dl rfl rfl) rfl rfl rfl ?_)
        refine asg rfl rfl rfl rfl rfl ?_
        refine TL'.nil (thenS_normal ?_)
        refine T.ret (inBlock_ret (thenS_ret ?_))
        exact Fin.done (.cons _ _ _ _ (.tmp 2 _ rfl) .nil) (by cases h; exact ⟨rfl, rfl⟩)
    · refine T.condF rfl c_157 ?_
      refine T.seq ?_
      refine T.seq ?_
      refine T.regionL ?_
      refine sp rfl (OpT.int2 rfl rfl (dl rfl rfl) rfl rfl ?_)
      refine asg rfl rfl rfl rfl rfl ?_
      refine TL'.nil (thenS_normal ?_)
      rcases bif_some h with ⟨c_161, h⟩ | ⟨c_161, h⟩
      · refine T.condT rfl c_161 ?_
        refine T.skip (thenS_normal ?_)
        refine T.by_turn ?_ (raddleref04_shape_j1_T K x3_0_6 x4_0_7 (!(x0.Name.toList == (⟨#[]⟩ : ByteArray).toList)) x0 (x0.Op == (3 : Int)) b1_0 h)
        exact Turn.rp (.cons rfl (.cons rfl (.cons rfl (.cons rfl (.cons rfl (.cons rfl (.nil _))))))) (.c .z (.n _))
      · refine T.condF rfl c_161 ?_
        refine T.regionL ?_
        refine sp rfl (OpT.int2 rfl rfl (dl rfl rfl) rfl rfl ?_)
        refine asg rfl rfl rfl rfl rfl ?_
        refine TL'.nil (thenS_normal ?_)
        refine T.by_turn ?_ (raddleref04_shape_j1_T K x3_0_6 x4_0_7 (!(x0.Name.toList == (⟨#[]⟩ : ByteArray).toList)) x0 (x0.Op == (4 : Int)) b1_0 h)
        exact Turn.rp (.cons rfl (.cons rfl (.cons rfl (.cons rfl (.cons rfl (.cons rfl (.nil _))))))) (.c .z (.n _))

theorem raddleref04_shape_T (K : Nat) {x0 : api_Node} {r : Bool} (h : raddleref04_shape K x0 = some r) : CallR Try.prog 26 [.agg [.int .u8 x0.Op, .int .u64 x0.S.a0, .int .u64 x0.S.a1, .int .u64 x0.S.a2, .int .u64 x0.S.a3, .sl false 1 (x0.L.map (cI .i64)), .int .i64 x0.Lo, .int .i64 x0.Hi, .str x0.Name]] [] (.bool r) := by
  refine CallT.intro Try.func26 rfl (Nat.le_of_ble_eq_true rfl) ?_
  show T Try.prog 144 (Code.at [] (codeOf Try.f26)) ⟨paramSlots 0 [.agg [.int .u8 x0.Op, .int .u64 x0.S.a0, .int .u64 x0.S.a1, .int .u64 x0.S.a2, .int .u64 x0.S.a3, .sl false 1 (x0.L.map (cI .i64)), .int .i64 x0.Lo, .int .i64 x0.Hi, .str x0.Name]], []⟩ (raddleref04_shape_q r)
  unfold raddleref04_shape at h
  refine T.seq ?_
  refine T.regionL ?_
  refine sp rfl (OpT.boxAgg rfl (dl rfl rfl) rfl (fun b_151 => ?_))
  refine asg rfl rfl rfl rfl rfl ?_
  refine TL'.nil (thenS_normal ?_)
  refine T.seq ?_
  refine T.regionL ?_
  refine sp rfl (OpT.fieldPtr rfl (dl rfl rfl) Try.underlying36 rfl i33 (by decide) rfl ?_)
  refine sp rfl (OpT.loadBoxAgg (i := 0) (l := (Arr4.dc .u64 x0.S)) rfl (dl rfl rfl) Try.underlying33 rfl i33 rfl rfl rfl rfl ?_)
  refine sp rfl (OpT.build (l := (Arr4.dc .u64 (Arr4.mk 0 0 0 0))) rfl (dl rfl rfl) (built_arr Try.underlying33 i33 i31) (all1 rfl) rfl rfl ?_)
  refine sp rfl (OpT.intsNeq (k := .u64) (xs := [x0.S.a0, x0.S.a1, x0.S.a2, x0.S.a3]) (ys := [(Arr4.mk 0 0 0 0).a0, (Arr4.mk 0 0 0 0).a1, (Arr4.mk 0 0 0 0).a2, (Arr4.mk 0 0 0 0).a3]) rfl (dl rfl rfl) Try.underlying33 Try.underlying31 i31 Try.eqGuardType33 rfl rfl rfl rfl rfl rfl (Arr4.same_eq x0.S (Arr4.mk 0 0 0 0)) ?_)
  refine asg rfl rfl rfl rfl rfl ?_
  refine TL'.nil (thenS_normal ?_)
  refine T.seq ?_
  refine T.regionL ?_
  refine sp rfl (OpT.fieldPtr rfl (dl rfl rfl) Try.underlying36 rfl i3 (by decide) rfl ?_)
  refine sp rfl (OpT.loadBox (i := 0) rfl (dl rfl rfl) Try.underlying3 rfl rfl rfl rfl ?_)
  refine sp rfl (OpT.int2 rfl rfl (dl rfl rfl) rfl rfl ?_)
  refine mv rfl rfl rfl rfl rfl ?_
  rcases bif_some h with ⟨c_152, h⟩ | ⟨c_152, h⟩
  · refine TL'.passU (.off _ _ _ _ rfl rfl rfl c_152) (dl rfl rfl) ?_
    refine TL'.passU (.off _ _ _ _ rfl rfl rfl c_152) (dl rfl rfl) ?_
    refine TL'.passU (.off _ _ _ _ rfl rfl rfl c_152) (dl rfl rfl) ?_
    refine sp rfl (OpT.pickT rfl (dl rfl rfl) rfl c_152 rfl ?_)
    refine asg rfl rfl rfl rfl rfl ?_
    refine TL'.nil (thenS_normal ?_)
    refine T.by_turn ?_ (raddleref04_shape_j0_T K (!(Arr4.same x0.S (Arr4.mk 0 0 0 0))) true x0 b_151 h)
    exact Turn.rp (.cons rfl (.cons rfl (.cons rfl (.nil _)))) (.c .z (.n _))
  · refine TL'.step (.on rfl rfl rfl c_152) (OpT.fieldPtr rfl (dl rfl rfl) Try.underlying36 rfl i3 (by decide) rfl ?_)
    refine TL'.step (.on rfl rfl rfl c_152) (OpT.loadBox (i := 0) rfl (dl rfl rfl) Try.underlying3 rfl rfl rfl rfl ?_)
    refine TL'.step (.on rfl rfl rfl c_152) (OpT.int2 rfl rfl (dl rfl rfl) rfl rfl ?_)
    refine sp rfl (OpT.pickF rfl (dl rfl rfl) rfl c_152 rfl ?_)
    refine asg rfl rfl rfl rfl rfl ?_
    refine TL'.nil (thenS_normal ?_)
    refine T.by_turn ?_ (raddleref04_shape_j0_T K (!(Arr4.same x0.S (Arr4.mk 0 0 0 0))) (x0.Hi != (0 : Int)) x0 b_151 h)
    exact Turn.rp (.cons rfl (.cons rfl (.cons rfl (.nil _)))) (.c .z (.n _))

abbrev raddleref04_Right_q (r : Bool) : Exit → St → Prop := retS Try.prog Try.f16 (fun y t => y = (.bool r) ∧ t = [])

abbrev raddleref04_Right_qs11 (r : Bool) : Exit → St → Prop := thenS (fun s' => T Try.prog 56 (Code.at [1, 1] (codeOf Try.f16)) s' ((raddleref04_Right_q r))) ((raddleref04_Right_q r))

abbrev raddleref04_Right_qs11111 (r : Bool) : Exit → St → Prop := thenS (fun s' => T Try.prog 56 (Code.at [1, 1, 1, 1, 1] (codeOf Try.f16)) s' ((raddleref04_Right_q r))) ((raddleref04_Right_q r))

abbrev raddleref04_Right_qs111111 (r : Bool) : Exit → St → Prop := thenS (fun s' => T Try.prog 56 (Code.at [1, 1, 1, 1, 1, 1] (codeOf Try.f16)) s' ((raddleref04_Right_q r))) ((raddleref04_Right_q r))

abbrev raddleref04_Right_qb2x111111 (r : Bool) : Exit → St → Prop := inBlockS 2 ((raddleref04_Right_qs111111 r))

abbrev raddleref04_Right_qs111 (r : Bool) : Exit → St → Prop := thenS (fun s' => T Try.prog 56 (Code.at [1, 1, 1] (codeOf Try.f16)) s' ((raddleref04_Right_q r))) ((raddleref04_Right_q r))

abbrev raddleref04_Right_qb0x111 (r : Bool) : Exit → St → Prop := inBlockS 0 ((raddleref04_Right_qs111 r))

theorem raddleref04_Right_j0_T {r : Bool} (K : Nat) (h : raddleref04_Right_j0 K = some r) : T Try.prog 56 (Code.at [1, 0, 1, 0] (codeOf Try.f16)) ⟨[], []⟩ (raddleref04_Right_qs11 r) := by
  unfold raddleref04_Right_j0 at h
  refine T.seq ?_
  refine T.regionL ?_
  refine asg rfl rfl rfl rfl rfl ?_
  refine TL'.nil (thenS_normal ?_)
  refine T.ret (thenS_ret ?_)
  exact Fin.done (.cons _ _ _ _ (.tmp 2 _ rfl) .nil) (by cases h; exact ⟨rfl, rfl⟩)

theorem raddleref04_Right_j2_T {r : Bool} (K : Nat) (h : raddleref04_Right_j2 K = some r) : T Try.prog 56 (Code.at [1, 1, 1, 1, 0, 1, 0] (codeOf Try.f16)) ⟨[], []⟩ (raddleref04_Right_qs11111 r) := by
  unfold raddleref04_Right_j2 at h
  refine T.seq ?_
  refine T.regionL ?_
  refine asg rfl rfl rfl rfl rfl ?_
  refine TL'.nil (thenS_normal ?_)
  refine T.ret (thenS_ret ?_)
  exact Fin.done (.cons _ _ _ _ (.tmp 2 _ rfl) .nil) (by cases h; exact ⟨rfl, rfl⟩)

theorem raddleref04_Right_l3_T {r : Bool} (K : Nat) : ∀ (k : Nat), ∀ (x6_3_1 : Int) (y4_3_0 : List Int) (w4_3 : Value), raddleref04_Right_l3 K k x6_3_1 y4_3_0 = some r → TL Try.prog 56 (Code.at [1, 1, 1, 1, 1, 0, 1, 0, 0] (codeOf Try.f16)) ⟨[(4, .c (.ex w4_3)), (6, .int .i64 x6_3_1)], [.arrA w4_3 3 1 (y4_3_0.map (cI .i64))]⟩ (raddleref04_Right_qb2x111111 r) := by
  intro k
  induction k with
  | zero =>
    intro x6_3_1 y4_3_0 w4_3 h
    cases (show (none : Option Bool) = some r from h)
  | succ k ih =>
    intro x6_3_1 y4_3_0 w4_3 h
    rw [raddleref04_Right_l3] at h
    refine TL.round ?_
    refine T.seq ?_
    refine T.seq ?_
    refine T.regionL ?_
    refine mv rfl rfl rfl rfl rfl ?_
    refine mv rfl rfl rfl rfl rfl ?_
    refine sp rfl (OpT.lenAM (i := 0) (xs := y4_3_0) (f := (cI .i64)) rfl (dl rfl rfl) Try.underlying34 rfl rfl ?_)
    refine sp rfl (OpT.int2 rfl rfl (dl rfl rfl) rfl rfl ?_)
    refine TL'.nil (thenS_normal ?_)
    rcases bif_some h with ⟨c_167, h⟩ | ⟨c_167, h⟩
    · refine T.condT rfl c_167 ?_
      refine T.skip (thenS_normal ?_)
      refine T.seq ?_
      refine T.block ?_
      refine T.seq ?_
      refine T.regionL ?_
      refine mv rfl rfl rfl rfl rfl ?_
      refine mv rfl rfl rfl rfl rfl ?_
      refine TL'.turn (Turn.view 50 0 rfl rfl) ?_
      obtain ⟨v_168, e_169, h⟩ := bind_some h
      refine sp rfl (OpT.indexSlM (xs := y4_3_0) (f := (cI .i64)) (v := v_168) rfl (dl rfl rfl) Try.underlying34 i3 rfl rfl e_169 ?_)
      refine sp rfl (OpT.loadRef rfl (dl rfl rfl) Try.underlying3 rfl rfl rfl ?_)
      refine mv rfl rfl rfl rfl rfl ?_
      refine sp rfl (OpT.int2 rfl rfl (dl rfl rfl) rfl rfl ?_)
      refine TL'.nil (thenS_normal ?_)
      rcases bif_some h with ⟨c_170, h⟩ | ⟨c_170, h⟩
      · refine T.condT rfl c_170 ?_
        refine T.seq ?_
        refine T.regionL ?_
        refine asg rfl rfl rfl rfl rfl ?_
        refine TL'.nil (thenS_normal ?_)
        refine T.ret (inBlock_ret (thenS_ret (thenS_ret (inBlock_ret (thenS_ret ?_)))))
        exact Fin.done (.cons _ _ _ _ (.tmp 2 _ rfl) .nil) (by cases h; exact ⟨rfl, rfl⟩)
      · refine T.condF rfl c_170 ?_
        refine T.skip (inBlock_normal (thenS_normal ?_))
        refine T.regionL ?_
        refine mv rfl rfl rfl rfl rfl ?_
        refine sp rfl (OpT.int2 rfl rfl (dl rfl rfl) rfl rfl ?_)
        refine asg rfl rfl rfl rfl rfl ?_
        refine TL'.nil (thenS_normal ?_)
        refine TL.by_turn ?_ (ih (IntKind.i64.wrap (x6_3_1 + (1 : Int))) y4_3_0 w4_3 h)
        exact Turn.rp (.cons rfl (.cons rfl (.nil _))) (.c .z (.n _))
    · refine T.condF rfl c_167 ?_
      refine T.exit (thenS_exit (thenS_exit (inBlock_exit (thenS_normal ?_))))
      refine T.seq ?_
      refine T.regionL ?_
      refine asg rfl rfl rfl rfl rfl ?_
      refine TL'.nil (thenS_normal ?_)
      refine T.ret ?_
      exact Fin.done (.cons _ _ _ _ (.tmp 2 _ rfl) .nil) (by cases h; exact ⟨rfl, rfl⟩)

theorem raddleref04_Right_l1_T {r : Bool} (K : Nat) : ∀ (k : Nat), ∀ (x0 : List api_Node) (x3_1_1 : Int) (flx0 : Bool), raddleref04_Right_l1 K k x0 x3_1_1 = some r → TL Try.prog 56 (Code.at [1, 1, 0, 1, 0, 0] (codeOf Try.f16)) ⟨[(0, .sl flx0 9 (x0.map c_api_Node)), (3, .int .i64 x3_1_1)], []⟩ (raddleref04_Right_qb0x111 r) := by
  intro k
  induction k with
  | zero =>
    intro x0 x3_1_1 flx0 h
    cases (show (none : Option Bool) = some r from h)
  | succ k ih =>
    intro x0 x3_1_1 flx0 h
    rw [raddleref04_Right_l1] at h
    refine TL.round ?_
    refine T.seq ?_
    refine T.seq ?_
    refine T.regionL ?_
    refine mv rfl rfl rfl rfl rfl ?_
    refine mv rfl rfl rfl rfl rfl ?_
    refine sp rfl (OpT.lenSlM (xs := x0) (f := c_api_Node) rfl (dl rfl rfl) Try.underlying23 rfl ?_)
    refine sp rfl (OpT.int2 rfl rfl (dl rfl rfl) rfl rfl ?_)
    refine TL'.nil (thenS_normal ?_)
    rcases bif_some h with ⟨c_156, h⟩ | ⟨c_156, h⟩
    · refine T.condT rfl c_156 ?_
      refine T.skip (thenS_normal ?_)
      refine T.seq ?_
      refine T.block ?_
      refine T.seq ?_
      refine T.regionL ?_
      refine mv rfl rfl rfl rfl rfl ?_
      refine mv rfl rfl rfl rfl rfl ?_
      obtain ⟨v_157, e_158, h⟩ := bind_some h
      refine sp rfl (OpT.indexSlM (xs := x0) (f := c_api_Node) (v := v_157) rfl (dl rfl rfl) Try.underlying23 i36 rfl rfl e_158 ?_)
      refine sp rfl (OpT.loadRefAgg rfl (dl rfl rfl) Try.underlying36 rfl i36 rfl (Nat.le_of_ble_eq_true rfl) ?_)
      obtain ⟨v_159, e_160, h⟩ := bind_some h
      refine sp rfl (OpT.callPA rfl (dl rfl rfl) Try.func26 rfl rfl (Args.cons rfl Args.nil) (CallR.nil (raddleref04_shape_T K e_160)) ?_)
      refine sp rfl (OpT.not rfl (dl rfl rfl) rfl ?_)
      refine TL'.nil (thenS_normal ?_)
      rcases bif_some h with ⟨c_161, h⟩ | ⟨c_161, h⟩
      · refine T.condT rfl c_161 ?_
        refine T.seq ?_
        refine T.regionL ?_
        refine asg rfl rfl rfl rfl rfl ?_
        refine TL'.nil (thenS_normal ?_)
        refine T.ret (inBlock_ret (thenS_ret (thenS_ret (inBlock_ret (thenS_ret ?_)))))
        exact Fin.done (.cons _ _ _ _ (.tmp 2 _ rfl) .nil) (by cases h; exact ⟨rfl, rfl⟩)
      · refine T.condF rfl c_161 ?_
        refine T.skip (inBlock_normal (thenS_normal ?_))
        refine T.regionL ?_
        refine mv rfl rfl rfl rfl rfl ?_
        refine sp rfl (OpT.int2 rfl rfl (dl rfl rfl) rfl rfl ?_)
        refine asg rfl rfl rfl rfl rfl ?_
        refine TL'.nil (thenS_normal ?_)
        refine TL.by_turn ?_ (ih x0 (IntKind.i64.wrap (x3_1_1 + (1 : Int))) flx0 h)
        exact Turn.rp (.cons rfl (.cons rfl (.nil _))) (.n _)
    · refine T.condF rfl c_156 ?_
      refine T.exit (thenS_exit (thenS_exit (inBlock_exit (thenS_normal ?_))))
      refine T.seq ?_
      refine T.regionL ?_
      refine mv rfl rfl rfl rfl rfl ?_
      refine mv rfl rfl rfl rfl rfl ?_
      refine sp rfl (OpT.lenSlM (xs := x0) (f := c_api_Node) rfl (dl rfl rfl) Try.underlying23 rfl ?_)
      refine sp rfl (OpT.int2 rfl rfl (dl rfl rfl) rfl rfl ?_)
      refine TL'.turn (Turn.nilA 3 1) ?_
      obtain ⟨v_162, e_163, h⟩ := bind_some h
      refine sp rfl (OpT.callG (is := [0]) (ph := []) rfl (dl rfl rfl) Try.func27 rfl rfl (Args.cons rfl (Args.cons rfl (Args.cons rfl Args.nil))) (raddleref04_walk_T K (flx0 := flx0) (wx2 := (nilv 10)) e_163) (.cons rfl rfl (.nil)) (fun _ => rfl) (fun γ_164 => ?_))
      refine nm (.c (.n)) ?_
      refine mv rfl rfl rfl rfl rfl ?_
      refine sp rfl (OpT.extract rfl (dl rfl rfl) rfl rfl ?_)
      refine sp rfl (OpT.extract rfl (dl rfl rfl) rfl rfl ?_)
      refine asg rfl rfl rfl rfl rfl ?_
      refine asg rfl rfl rfl rfl rfl ?_
      refine TL'.nil (thenS_normal ?_)
      refine T.seq ?_
      refine T.seq ?_
      refine T.regionL ?_
      refine mv rfl rfl rfl rfl rfl ?_
      refine sp rfl (OpT.not rfl (dl rfl rfl) rfl ?_)
      refine mv rfl rfl rfl rfl rfl ?_
      rcases bif_some h with ⟨c_165, h⟩ | ⟨c_165, h⟩
      · refine TL'.passU (.off _ _ _ _ rfl rfl rfl c_165) (dl rfl rfl) ?_
        refine TL'.passU (.off _ _ _ _ rfl rfl rfl c_165) (dl rfl rfl) ?_
        refine TL'.passU (.off _ _ _ _ rfl rfl rfl c_165) (dl rfl rfl) ?_
        refine TL'.passU (.off _ _ _ _ rfl rfl rfl c_165) (dl rfl rfl) ?_
        refine TL'.passU (.off _ _ _ _ rfl rfl rfl c_165) (dl rfl rfl) ?_
        refine sp rfl (OpT.pickT rfl (dl rfl rfl) rfl c_165 rfl ?_)
        refine TL'.nil (thenS_normal ?_)
        refine T.condT rfl rfl ?_
        refine T.by_turn ?_ (raddleref04_Right_j2_T K h)
        exact Turn.rp (.nil _) (.n _)
      · refine TL'.step (.on rfl rfl rfl c_165) (OpT.move rfl (dl rfl rfl) rfl ?_)
        refine TL'.step (.on rfl rfl rfl c_165) (OpT.lenAM (i := 0) (xs := v_162.1) (f := (cI .i64)) rfl (dl rfl rfl) Try.underlying34 rfl rfl ?_)
        refine TL'.step (.on rfl rfl rfl c_165) (OpT.move rfl (dl rfl rfl) rfl ?_)
        refine TL'.step (.on rfl rfl rfl c_165) (OpT.lenSlM (xs := x0) (f := c_api_Node) rfl (dl rfl rfl) Try.underlying23 rfl ?_)
        refine TL'.step (.on rfl rfl rfl c_165) (OpT.int2 rfl rfl (dl rfl rfl) rfl rfl ?_)
        refine sp rfl (OpT.pickF rfl (dl rfl rfl) rfl c_165 rfl ?_)
        refine TL'.nil (thenS_normal ?_)
        rcases bif_some h with ⟨c_166, h⟩ | ⟨c_166, h⟩
        · refine T.condT rfl c_166 ?_
          refine T.by_turn ?_ (raddleref04_Right_j2_T K h)
          exact Turn.rp (.nil _) (.n _)
        · refine T.condF rfl c_166 ?_
          refine T.skip (thenS_normal ?_)
          refine T.seq ?_
          refine T.seq ?_
          refine T.regionL ?_
          refine asg rfl rfl rfl rfl rfl ?_
          refine TL'.nil (thenS_normal ?_)
          refine T.block ?_
          refine T.loop ?_
          refine TL.by_turn ?_ (raddleref04_Right_l3_T K K (0 : Int) v_162.1 (γ_164 0) h)
          exact Turn.rp (.cons rfl (.cons rfl (.nil _))) (.c .z (.n _))

theorem raddleref04_Right_T (K : Nat) {x0 : List api_Node} {flx0 : Bool} {r : Bool} (h : raddleref04_Right K x0 = some r) : CallR Try.prog 16 [.sl flx0 9 (x0.map c_api_Node)] [] (.bool r) := by
  refine CallT.intro Try.func16 rfl (Nat.le_of_ble_eq_true rfl) ?_
  show T Try.prog 56 (Code.at [] (codeOf Try.f16)) ⟨paramSlots 0 [.sl flx0 9 (x0.map c_api_Node)], []⟩ (raddleref04_Right_q r)
  unfold raddleref04_Right at h
  refine T.seq ?_
  refine T.regionL ?_
  refine asg rfl rfl rfl rfl rfl ?_
  refine TL'.nil (thenS_normal ?_)
  refine T.seq ?_
  refine T.seq ?_
  refine T.regionL ?_
  refine mv rfl rfl rfl rfl rfl ?_
  refine sp rfl (OpT.lenSlM (xs := x0) (f := c_api_Node) rfl (dl rfl rfl) Try.underlying23 rfl ?_)
  refine sp rfl (OpT.int2 rfl rfl (dl rfl rfl) rfl rfl ?_)
  refine mv rfl rfl rfl rfl rfl ?_
  rcases bif_some h with ⟨c_154, h⟩ | ⟨c_154, h⟩
  · refine TL'.passU (.off _ _ _ _ rfl rfl rfl c_154) (dl rfl rfl) ?_
    refine TL'.passU (.off _ _ _ _ rfl rfl rfl c_154) (dl rfl rfl) ?_
    refine TL'.passU (.off _ _ _ _ rfl rfl rfl c_154) (dl rfl rfl) ?_
    refine sp rfl (OpT.pickT rfl (dl rfl rfl) rfl c_154 rfl ?_)
    refine TL'.nil (thenS_normal ?_)
    refine T.condT rfl rfl ?_
    refine T.by_turn ?_ (raddleref04_Right_j0_T K h)
    exact Turn.rp (.nil _) (.n _)
  · refine TL'.step (.on rfl rfl rfl c_154) (OpT.move rfl (dl rfl rfl) rfl ?_)
    refine TL'.step (.on rfl rfl rfl c_154) (OpT.lenSlM (xs := x0) (f := c_api_Node) rfl (dl rfl rfl) Try.underlying23 rfl ?_)
    refine TL'.step (.on rfl rfl rfl c_154) (OpT.int2 rfl rfl (dl rfl rfl) rfl rfl ?_)
    refine sp rfl (OpT.pickF rfl (dl rfl rfl) rfl c_154 rfl ?_)
    refine TL'.nil (thenS_normal ?_)
    rcases bif_some h with ⟨c_155, h⟩ | ⟨c_155, h⟩
    · refine T.condT rfl c_155 ?_
      refine T.by_turn ?_ (raddleref04_Right_j0_T K h)
      exact Turn.rp (.nil _) (.n _)
    · refine T.condF rfl c_155 ?_
      refine T.skip (thenS_normal ?_)
      refine T.seq ?_
      refine T.seq ?_
      refine T.regionL ?_
      refine asg rfl rfl rfl rfl rfl ?_
      refine TL'.nil (thenS_normal ?_)
      refine T.block ?_
      refine T.loop ?_
      refine TL.by_turn ?_ (raddleref04_Right_l1_T K K x0 (0 : Int) flx0 h)
      exact Turn.rp (.cons rfl (.cons rfl (.nil _))) (.n _)

end Go.Rv

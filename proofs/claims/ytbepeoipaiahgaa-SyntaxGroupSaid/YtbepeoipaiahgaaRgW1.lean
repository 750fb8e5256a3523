/- Each function computes what its plain text says: printed by a program of ours. -/
import Derived.Test.YtbepeoipaiahgaaRgW0
namespace Go.Rv
open Go.Proofs
set_option maxRecDepth 100000
set_option maxHeartbeats 4000000
set_option linter.unusedVariables false

abbrev syntax_reader_peek_q (bx0 : Nat) (x0 : syntax_parser) (r : Int × Bool) : Exit → St → Prop := retS Try.prog Try.f19 (fun y t => ∃ γ : Nat → Value, y = (.tup [.int .u8 r.1, .bool r.2]) ∧ t = [.box bx0 47 [.d (.str x0.reader.s), .d (.int .i64 x0.reader.at_), .d (.int .i64 x0.reader.where_), .d (.int .i64 x0.reader.e), .d (.ex (γ 0)), .d (.int .i64 x0.deep)], .arrA (γ 0) 36 9 (x0.nodes.map c_api_Node)])

abbrev syntax_reader_peek_qs11 (bx0 : Nat) (x0 : syntax_parser) (r : Int × Bool) : Exit → St → Prop := thenS (fun s' => T Try.prog 30 (Code.at [1, 1] (codeOf Try.f19)) s' ((syntax_reader_peek_q bx0 x0 r))) ((syntax_reader_peek_q bx0 x0 r))

theorem syntax_reader_peek_j0_T {r : Int × Bool} (K : Nat) (bx0 : Nat) (x0 : syntax_parser) (x0 : syntax_parser) (w9000_0 : Value) (h : syntax_reader_peek_j0 K x0 = some r) : T Try.prog 30 (Code.at [1, 0, 1, 0] (codeOf Try.f19)) ⟨[], [.box bx0 47 [.d (.str x0.reader.s), .d (.int .i64 x0.reader.at_), .d (.int .i64 x0.reader.where_), .d (.int .i64 x0.reader.e), .d (.ex w9000_0), .d (.int .i64 x0.deep)], .arrA w9000_0 36 9 (x0.nodes.map c_api_Node)]⟩ (syntax_reader_peek_qs11 bx0 x0 r) := by
  unfold syntax_reader_peek_j0 at h
  refine T.seq ?_
  refine T.regionL ?_
  refine asg rfl rfl rfl rfl rfl ?_
  refine asg rfl rfl rfl rfl rfl ?_
  refine TL'.nil (thenS_normal ?_)
  refine T.ret (thenS_ret ?_)
  exact Fin.doneK (.cons _ _ _ _ (.tmp 2 _ rfl) (.cons _ _ _ _ (.tmp 3 _ rfl) .nil)) (.cons 0 rfl (.cons 0 rfl (.nil _))) (by cases h; exact ⟨gl [w9000_0], rfl, rfl⟩)

theorem syntax_reader_peek_T (K : Nat) {x0 : syntax_parser} {bx0 : Nat} {wx0c1 : Value} {r : Int × Bool} (h : syntax_reader_peek K x0 = some r) : CallG Try.prog 19 [.ptr bx0 (0 + 0)] [.box bx0 47 [.d (.str x0.reader.s), .d (.int .i64 x0.reader.at_), .d (.int .i64 x0.reader.where_), .d (.int .i64 x0.reader.e), .d (.ex wx0c1), .d (.int .i64 x0.deep)], .arrA wx0c1 36 9 (x0.nodes.map c_api_Node)] (fun γ => (.tup [.int .u8 r.1, .bool r.2])) (fun γ => [.box bx0 47 [.d (.str x0.reader.s), .d (.int .i64 x0.reader.at_), .d (.int .i64 x0.reader.where_), .d (.int .i64 x0.reader.e), .d (.ex (γ 0)), .d (.int .i64 x0.deep)], .arrA (γ 0) 36 9 (x0.nodes.map c_api_Node)]) := by
  refine CallT.intro Try.func19 rfl (Nat.le_of_ble_eq_true rfl) ?_
  show T Try.prog 30 (Code.at [] (codeOf Try.f19)) ⟨paramSlots 0 [.ptr bx0 (0 + 0)], [.box bx0 47 [.d (.str x0.reader.s), .d (.int .i64 x0.reader.at_), .d (.int .i64 x0.reader.where_), .d (.int .i64 x0.reader.e), .d (.ex wx0c1), .d (.int .i64 x0.deep)], .arrA wx0c1 36 9 (x0.nodes.map c_api_Node)]⟩ (syntax_reader_peek_q bx0 x0 r)
  unfold syntax_reader_peek at h
  refine T.seq ?_
  refine T.regionL ?_
  refine asg rfl rfl rfl rfl rfl ?_
  refine asg rfl rfl rfl rfl rfl ?_
  refine TL'.nil (thenS_normal ?_)
  refine T.seq ?_
  refine T.seq ?_
  refine DG.start ?_
  refine DG.mv rfl rfl rfl rfl rfl rfl ?_
  refine DG.step (c := ⟨some 5, .ptr bx0 (0 + 0), [(4, .ptr bx0 (0 + 0))], [], []⟩) (fun t hm => One.step rfl (.free rfl) (OpT.nilCheck rfl (dl rfl rfl) hm.s0 rfl rfl)) (Ct.met_of rfl rfl) ?_
  refine DG.step (c := ⟨some 6, .ptr bx0 (0 + 0 + 3), [(5, .ptr bx0 (0 + 0))], [], []⟩) (fun t hm => One.step rfl (.free rfl) (OpT.fieldPtr rfl (dl rfl rfl) Try.underlying45 rfl i24 (by decide) hm.s0 rfl)) (Ct.met_of rfl rfl) ?_
  refine DG.step (c := ⟨some 7, .int .i64 x0.reader.e, [(6, .ptr bx0 (0 + 0 + 3))], [(0, .box bx0 47 [.d (.str x0.reader.s), .d (.int .i64 x0.reader.at_), .d (.int .i64 x0.reader.where_), .d (.int .i64 x0.reader.e), .d (.ex wx0c1), .d (.int .i64 x0.deep)])], []⟩) (fun t hm => One.step rfl (.free rfl) (OpT.loadBox (i := 0) rfl (dl rfl rfl) Try.underlying24 rfl hm.s0 hm.o0 rfl rfl)) (Ct.met_of rfl rfl) ?_
  refine DG.step (c := ⟨some 8, .bool (x0.reader.e != (0 : Int)), [(7, .int .i64 x0.reader.e)], [], []⟩) (fun t hm => One.step rfl (.free rfl) (OpT.int2 rfl rfl (dl rfl rfl) hm.s0 rfl rfl)) (Ct.met_of rfl rfl) ?_
  refine DG.mv rfl rfl rfl rfl rfl rfl ?_
  rcases bif_some h with ⟨c_38, h⟩ | ⟨c_38, h⟩
  · refine DG.off c_38 rfl rfl rfl rfl rfl rfl ?_
    refine DG.off c_38 rfl rfl rfl rfl rfl rfl ?_
    refine DG.off c_38 rfl rfl rfl rfl rfl rfl ?_
    refine DG.off c_38 rfl rfl rfl rfl rfl rfl ?_
    refine DG.off c_38 rfl rfl rfl rfl rfl rfl ?_
    refine DG.off c_38 rfl rfl rfl rfl rfl rfl ?_
    refine DG.off c_38 rfl rfl rfl rfl rfl rfl ?_
    refine DG.off c_38 rfl rfl rfl rfl rfl rfl ?_
    refine DG.off c_38 rfl rfl rfl rfl rfl rfl ?_
    refine DG.off c_38 rfl rfl rfl rfl rfl rfl ?_
    refine DG.step (c := ⟨some 20, .bool true, [(9, .bool (x0.reader.e != (0 : Int)))], [], []⟩) (fun t hm => One.step rfl (.free rfl) (OpT.pickT rfl (dl rfl rfl) hm.s0 c_38 rfl rfl)) (Ct.met_of rfl rfl) ?_
    refine DG.fin (s1 := ⟨[(0, .ptr bx0 (0 + 0)), (20, .bool true)], [.box bx0 47 [.d (.str x0.reader.s), .d (.int .i64 x0.reader.at_), .d (.int .i64 x0.reader.where_), .d (.int .i64 x0.reader.e), .d (.ex wx0c1), .d (.int .i64 x0.deep)], .arrA wx0c1 36 9 (x0.nodes.map c_api_Node)]⟩) (ms := [0, 1, 3, 7, 15, 31, 63, 127, 255, 511, 63, 1087, 3135, 7231, 15423, 32767, 65535]) TryMixed rfl (by kernel_rfl) (by kernel_rfl) (by kernel_rfl) (.cons rfl (.cons rfl (.nil _))) rfl (fun u hu => (thenS_normal (T.by_turn hu ?_)))
    refine T.condT rfl rfl ?_
    refine T.by_turn ?_ (syntax_reader_peek_j0_T K bx0 x0 x0 wx0c1 h)
    exact Turn.rp (.nil _) (.c .z (.c .z (.n _)))
  · refine DG.step (c := ⟨some 10, .ptr bx0 (0 + 0), [(0, .ptr bx0 (0 + 0)), (9, .bool (x0.reader.e != (0 : Int)))], [], []⟩) (fun t hm => One.step rfl (.on rfl rfl hm.s1 c_38) (OpT.move rfl (dl rfl rfl) hm.s0 rfl)) (Ct.met_of rfl rfl) ?_
    refine DG.step (c := ⟨some 11, .ptr bx0 (0 + 0), [(10, .ptr bx0 (0 + 0)), (9, .bool (x0.reader.e != (0 : Int)))], [], []⟩) (fun t hm => One.step rfl (.on rfl rfl hm.s1 c_38) (OpT.nilCheck rfl (dl rfl rfl) hm.s0 rfl rfl)) (Ct.met_of rfl rfl) ?_
    refine DG.step (c := ⟨some 12, .ptr bx0 (0 + 0 + 1), [(11, .ptr bx0 (0 + 0)), (9, .bool (x0.reader.e != (0 : Int)))], [], []⟩) (fun t hm => One.step rfl (.on rfl rfl hm.s1 c_38) (OpT.fieldPtr rfl (dl rfl rfl) Try.underlying45 rfl i3 (by decide) hm.s0 rfl)) (Ct.met_of rfl rfl) ?_
    refine DG.step (c := ⟨some 13, .int .i64 x0.reader.at_, [(12, .ptr bx0 (0 + 0 + 1)), (9, .bool (x0.reader.e != (0 : Int)))], [(0, .box bx0 47 [.d (.str x0.reader.s), .d (.int .i64 x0.reader.at_), .d (.int .i64 x0.reader.where_), .d (.int .i64 x0.reader.e), .d (.ex wx0c1), .d (.int .i64 x0.deep)])], []⟩) (fun t hm => One.step rfl (.on rfl rfl hm.s1 c_38) (OpT.loadBox (i := 0) rfl (dl rfl rfl) Try.underlying3 rfl hm.s0 hm.o0 rfl rfl)) (Ct.met_of rfl rfl) ?_
    refine DG.step (c := ⟨some 14, .ptr bx0 (0 + 0), [(0, .ptr bx0 (0 + 0)), (9, .bool (x0.reader.e != (0 : Int)))], [], []⟩) (fun t hm => One.step rfl (.on rfl rfl hm.s1 c_38) (OpT.move rfl (dl rfl rfl) hm.s0 rfl)) (Ct.met_of rfl rfl) ?_
    refine DG.step (c := ⟨some 15, .ptr bx0 (0 + 0), [(14, .ptr bx0 (0 + 0)), (9, .bool (x0.reader.e != (0 : Int)))], [], []⟩) (fun t hm => One.step rfl (.on rfl rfl hm.s1 c_38) (OpT.nilCheck rfl (dl rfl rfl) hm.s0 rfl rfl)) (Ct.met_of rfl rfl) ?_
    refine DG.step (c := ⟨some 16, .ptr bx0 (0 + 0 + 0), [(15, .ptr bx0 (0 + 0)), (9, .bool (x0.reader.e != (0 : Int)))], [], []⟩) (fun t hm => One.step rfl (.on rfl rfl hm.s1 c_38) (OpT.fieldPtr rfl (dl rfl rfl) Try.underlying45 rfl i9 (by decide) hm.s0 rfl)) (Ct.met_of rfl rfl) ?_
    refine DG.step (c := ⟨some 17, .str x0.reader.s, [(16, .ptr bx0 (0 + 0 + 0)), (9, .bool (x0.reader.e != (0 : Int)))], [(0, .box bx0 47 [.d (.str x0.reader.s), .d (.int .i64 x0.reader.at_), .d (.int .i64 x0.reader.where_), .d (.int .i64 x0.reader.e), .d (.ex wx0c1), .d (.int .i64 x0.deep)])], []⟩) (fun t hm => One.step rfl (.on rfl rfl hm.s1 c_38) (OpT.loadBox (i := 0) rfl (dl rfl rfl) Try.underlying9 rfl hm.s0 hm.o0 rfl rfl)) (Ct.met_of rfl rfl) ?_
    refine DG.step (c := ⟨some 18, .int .i64 (x0.reader.s.size : Int), [(17, .str x0.reader.s), (9, .bool (x0.reader.e != (0 : Int)))], [], []⟩) (fun t hm => One.step rfl (.on rfl rfl hm.s1 c_38) (OpT.lenStr rfl (dl rfl rfl) Try.underlying9 hm.s0 rfl)) (Ct.met_of rfl rfl) ?_
    refine DG.step (c := ⟨some 19, .bool (decide (x0.reader.at_ ≥ (x0.reader.s.size : Int))), [(13, .int .i64 x0.reader.at_), (18, .int .i64 (x0.reader.s.size : Int)), (9, .bool (x0.reader.e != (0 : Int)))], [], []⟩) (fun t hm => One.step rfl (.on rfl rfl hm.s2 c_38) (OpT.int2 rfl rfl (dl rfl rfl) hm.s0 hm.s1 rfl)) (Ct.met_of rfl rfl) ?_
    refine DG.step (c := ⟨some 20, .bool (decide (x0.reader.at_ ≥ (x0.reader.s.size : Int))), [(9, .bool (x0.reader.e != (0 : Int))), (19, .bool (decide (x0.reader.at_ ≥ (x0.reader.s.size : Int))))], [], []⟩) (fun t hm => One.step rfl (.free rfl) (OpT.pickF rfl (dl rfl rfl) hm.s0 c_38 hm.s1 rfl)) (Ct.met_of rfl rfl) ?_
    refine DG.fin (s1 := ⟨[(0, .ptr bx0 (0 + 0)), (20, .bool (decide (x0.reader.at_ ≥ (x0.reader.s.size : Int))))], [.box bx0 47 [.d (.str x0.reader.s), .d (.int .i64 x0.reader.at_), .d (.int .i64 x0.reader.where_), .d (.int .i64 x0.reader.e), .d (.ex wx0c1), .d (.int .i64 x0.deep)], .arrA wx0c1 36 9 (x0.nodes.map c_api_Node)]⟩) (ms := [0, 1, 3, 7, 15, 31, 63, 127, 255, 511, 63, 1087, 3135, 7231, 15423, 32767, 65535]) TryMixed rfl (by kernel_rfl) (by kernel_rfl) (by kernel_rfl) (.cons rfl (.cons rfl (.nil _))) rfl (fun u hu => (thenS_normal (T.by_turn hu ?_)))
    rcases bif_some h with ⟨c_39, h⟩ | ⟨c_39, h⟩
    · refine T.condT rfl c_39 ?_
      refine T.by_turn ?_ (syntax_reader_peek_j0_T K bx0 x0 x0 wx0c1 h)
      exact Turn.rp (.nil _) (.c .z (.c .z (.n _)))
    · refine T.condF rfl c_39 ?_
      refine T.skip (thenS_normal ?_)
      refine T.seq ?_
      refine DG.start ?_
      refine DG.mv rfl rfl rfl rfl rfl rfl ?_
      refine DG.step (c := ⟨some 22, .ptr bx0 (0 + 0), [(21, .ptr bx0 (0 + 0))], [], []⟩) (fun t hm => One.step rfl (.free rfl) (OpT.nilCheck rfl (dl rfl rfl) hm.s0 rfl rfl)) (Ct.met_of rfl rfl) ?_
      refine DG.step (c := ⟨some 23, .ptr bx0 (0 + 0 + 0), [(22, .ptr bx0 (0 + 0))], [], []⟩) (fun t hm => One.step rfl (.free rfl) (OpT.fieldPtr rfl (dl rfl rfl) Try.underlying45 rfl i9 (by decide) hm.s0 rfl)) (Ct.met_of rfl rfl) ?_
      refine DG.step (c := ⟨some 24, .str x0.reader.s, [(23, .ptr bx0 (0 + 0 + 0))], [(0, .box bx0 47 [.d (.str x0.reader.s), .d (.int .i64 x0.reader.at_), .d (.int .i64 x0.reader.where_), .d (.int .i64 x0.reader.e), .d (.ex wx0c1), .d (.int .i64 x0.deep)])], []⟩) (fun t hm => One.step rfl (.free rfl) (OpT.loadBox (i := 0) rfl (dl rfl rfl) Try.underlying9 rfl hm.s0 hm.o0 rfl rfl)) (Ct.met_of rfl rfl) ?_
      refine DG.mv rfl rfl rfl rfl rfl rfl ?_
      refine DG.step (c := ⟨some 26, .ptr bx0 (0 + 0), [(25, .ptr bx0 (0 + 0))], [], []⟩) (fun t hm => One.step rfl (.free rfl) (OpT.nilCheck rfl (dl rfl rfl) hm.s0 rfl rfl)) (Ct.met_of rfl rfl) ?_
      refine DG.step (c := ⟨some 27, .ptr bx0 (0 + 0 + 1), [(26, .ptr bx0 (0 + 0))], [], []⟩) (fun t hm => One.step rfl (.free rfl) (OpT.fieldPtr rfl (dl rfl rfl) Try.underlying45 rfl i3 (by decide) hm.s0 rfl)) (Ct.met_of rfl rfl) ?_
      refine DG.step (c := ⟨some 28, .int .i64 x0.reader.at_, [(27, .ptr bx0 (0 + 0 + 1))], [(0, .box bx0 47 [.d (.str x0.reader.s), .d (.int .i64 x0.reader.at_), .d (.int .i64 x0.reader.where_), .d (.int .i64 x0.reader.e), .d (.ex wx0c1), .d (.int .i64 x0.deep)])], []⟩) (fun t hm => One.step rfl (.free rfl) (OpT.loadBox (i := 0) rfl (dl rfl rfl) Try.underlying3 rfl hm.s0 hm.o0 rfl rfl)) (Ct.met_of rfl rfl) ?_
      obtain ⟨g_42, h⟩ := ck_some h
      refine DG.step (c := ⟨some 29, .int .u8 (bt x0.reader.s x0.reader.at_), [(24, .str x0.reader.s), (28, .int .i64 x0.reader.at_)], [], []⟩) (fun t hm => One.step rfl (.free rfl) (OpT.indexStr rfl (dl rfl rfl) Try.underlying9 hm.s0 hm.s1 g_42.1 g_42.2 rfl)) (Ct.met_of rfl rfl) ?_
      refine DG.step (c := ⟨some 2, .int .u8 (bt x0.reader.s x0.reader.at_), [(29, .int .u8 (bt x0.reader.s x0.reader.at_))], [], []⟩) (fun t hm => One.step rfl (.free rfl) (OpT.assign rfl (dl rfl rfl) hm.s0 rfl)) (Ct.met_of rfl rfl) ?_
      refine DG.step (c := ⟨some 3, .bool true, [], [], []⟩) (fun t hm => One.step rfl (.free rfl) (OpT.assign rfl (dl rfl rfl) rfl rfl)) (Ct.met_of rfl rfl) ?_
      refine DG.fin (s1 := ⟨[(2, .int .u8 (bt x0.reader.s x0.reader.at_)), (3, .bool true)], [.box bx0 47 [.d (.str x0.reader.s), .d (.int .i64 x0.reader.at_), .d (.int .i64 x0.reader.where_), .d (.int .i64 x0.reader.e), .d (.ex wx0c1), .d (.int .i64 x0.deep)], .arrA wx0c1 36 9 (x0.nodes.map c_api_Node)]⟩) (ms := [0, 1, 3, 7, 0, 16, 48, 112, 255, 511, 1023]) TryMixed rfl (by kernel_rfl) (by kernel_rfl) (by kernel_rfl) (.cons rfl (.cons rfl (.nil _))) rfl (fun u hu => (thenS_normal (T.by_turn hu ?_)))
      refine T.ret ?_
      exact Fin.doneK (.cons _ _ _ _ (.tmp 2 _ rfl) (.cons _ _ _ _ (.tmp 3 _ rfl) .nil)) (.cons 0 rfl (.cons 0 rfl (.nil _))) (by cases h; exact ⟨gl [wx0c1], rfl, rfl⟩)

abbrev syntax_digit_q (r : Bool) : Exit → St → Prop := retS Try.prog Try.f23 (fun y t => y = (.bool r) ∧ t = [])

theorem syntax_digit_T (K : Nat) {x0 : Int} {r : Bool} (h : syntax_digit K x0 = some r) : CallR Try.prog 23 [.int .u8 x0] [] (.bool r) := by
  refine CallT.intro Try.func23 rfl (Nat.le_of_ble_eq_true rfl) ?_
  show T Try.prog 9 (Code.at [] (codeOf Try.f23)) ⟨paramSlots 0 [.int .u8 x0], []⟩ (syntax_digit_q r)
  unfold syntax_digit at h
  refine T.seq ?_
  refine T.regionL ?_
  refine asg rfl rfl rfl rfl rfl ?_
  refine TL'.nil (thenS_normal ?_)
  refine T.seq ?_
  refine T.regionL ?_
  refine mv rfl rfl rfl rfl rfl ?_
  refine sp rfl (OpT.int2 rfl rfl (dl rfl rfl) rfl rfl ?_)
  refine mv rfl rfl rfl rfl rfl ?_
  rcases bif_some h with ⟨c_5, h⟩ | ⟨c_5, h⟩
  · refine TL'.step (.on rfl rfl rfl c_5) (OpT.move rfl (dl rfl rfl) rfl ?_)
    refine TL'.step (.on rfl rfl rfl c_5) (OpT.int2 rfl rfl (dl rfl rfl) rfl rfl ?_)
    refine sp rfl (OpT.pickT rfl (dl rfl rfl) rfl c_5 rfl ?_)
    refine asg rfl rfl rfl rfl rfl ?_
    refine TL'.nil (thenS_normal ?_)
    refine T.ret ?_
    exact Fin.done (.cons _ _ _ _ (.tmp 2 _ rfl) .nil) (by cases h; exact ⟨rfl, rfl⟩)
  · refine TL'.passU (.off _ _ _ _ rfl rfl rfl c_5) (dl rfl rfl) ?_
    refine TL'.passU (.off _ _ _ _ rfl rfl rfl c_5) (dl rfl rfl) ?_
    refine sp rfl (OpT.pickF rfl (dl rfl rfl) rfl c_5 rfl ?_)
    refine asg rfl rfl rfl rfl rfl ?_
    refine TL'.nil (thenS_normal ?_)
    refine T.ret ?_
    exact Fin.done (.cons _ _ _ _ (.tmp 2 _ rfl) .nil) (by cases h; exact ⟨rfl, rfl⟩)

abbrev syntax_reader_digit_q (bx0 : Nat) (x0 : syntax_parser) (r : Bool) : Exit → St → Prop := retS Try.prog Try.f47 (fun y t => ∃ γ : Nat → Value, y = (.bool r) ∧ t = [.box bx0 47 [.d (.str x0.reader.s), .d (.int .i64 x0.reader.at_), .d (.int .i64 x0.reader.where_), .d (.int .i64 x0.reader.e), .d (.ex (γ 0)), .d (.int .i64 x0.deep)], .arrA (γ 0) 36 9 (x0.nodes.map c_api_Node)])

theorem syntax_reader_digit_T (K : Nat) {x0 : syntax_parser} {x1 : Int} {bx0 : Nat} {wx0c1 : Value} {r : Bool} (h : syntax_reader_digit K x0 x1 = some r) : CallG Try.prog 47 [.ptr bx0 (0 + 0), .int .i64 x1] [.box bx0 47 [.d (.str x0.reader.s), .d (.int .i64 x0.reader.at_), .d (.int .i64 x0.reader.where_), .d (.int .i64 x0.reader.e), .d (.ex wx0c1), .d (.int .i64 x0.deep)], .arrA wx0c1 36 9 (x0.nodes.map c_api_Node)] (fun γ => (.bool r)) (fun γ => [.box bx0 47 [.d (.str x0.reader.s), .d (.int .i64 x0.reader.at_), .d (.int .i64 x0.reader.where_), .d (.int .i64 x0.reader.e), .d (.ex (γ 0)), .d (.int .i64 x0.deep)], .arrA (γ 0) 36 9 (x0.nodes.map c_api_Node)]) := by
  refine CallT.intro Try.func47 rfl (Nat.le_of_ble_eq_true rfl) ?_
  show T Try.prog 38 (Code.at [] (codeOf Try.f47)) ⟨paramSlots 0 [.ptr bx0 (0 + 0), .int .i64 x1], [.box bx0 47 [.d (.str x0.reader.s), .d (.int .i64 x0.reader.at_), .d (.int .i64 x0.reader.where_), .d (.int .i64 x0.reader.e), .d (.ex wx0c1), .d (.int .i64 x0.deep)], .arrA wx0c1 36 9 (x0.nodes.map c_api_Node)]⟩ (syntax_reader_digit_q bx0 x0 r)
  unfold syntax_reader_digit at h
  refine T.seq ?_
  refine T.regionL ?_
  refine asg rfl rfl rfl rfl rfl ?_
  refine TL'.nil (thenS_normal ?_)
  refine T.seq ?_
  refine DG.start ?_
  refine DG.mv rfl rfl rfl rfl rfl rfl ?_
  refine DG.step (c := ⟨some 6, .ptr bx0 (0 + 0), [(5, .ptr bx0 (0 + 0))], [], []⟩) (fun t hm => One.step rfl (.free rfl) (OpT.nilCheck rfl (dl rfl rfl) hm.s0 rfl rfl)) (Ct.met_of rfl rfl) ?_
  refine DG.step (c := ⟨some 7, .ptr bx0 (0 + 0 + 3), [(6, .ptr bx0 (0 + 0))], [], []⟩) (fun t hm => One.step rfl (.free rfl) (OpT.fieldPtr rfl (dl rfl rfl) Try.underlying45 rfl i24 (by decide) hm.s0 rfl)) (Ct.met_of rfl rfl) ?_
  refine DG.step (c := ⟨some 8, .int .i64 x0.reader.e, [(7, .ptr bx0 (0 + 0 + 3))], [(0, .box bx0 47 [.d (.str x0.reader.s), .d (.int .i64 x0.reader.at_), .d (.int .i64 x0.reader.where_), .d (.int .i64 x0.reader.e), .d (.ex wx0c1), .d (.int .i64 x0.deep)])], []⟩) (fun t hm => One.step rfl (.free rfl) (OpT.loadBox (i := 0) rfl (dl rfl rfl) Try.underlying24 rfl hm.s0 hm.o0 rfl rfl)) (Ct.met_of rfl rfl) ?_
  refine DG.step (c := ⟨some 9, .bool (x0.reader.e == (0 : Int)), [(8, .int .i64 x0.reader.e)], [], []⟩) (fun t hm => One.step rfl (.free rfl) (OpT.int2 rfl rfl (dl rfl rfl) hm.s0 rfl rfl)) (Ct.met_of rfl rfl) ?_
  refine DG.mv rfl rfl rfl rfl rfl rfl ?_
  rcases bif_some h with ⟨c_51, h⟩ | ⟨c_51, h⟩
  · refine DG.step (c := ⟨some 11, .ptr bx0 (0 + 0), [(0, .ptr bx0 (0 + 0)), (10, .bool (x0.reader.e == (0 : Int)))], [], []⟩) (fun t hm => One.step rfl (.on rfl rfl hm.s1 c_51) (OpT.move rfl (dl rfl rfl) hm.s0 rfl)) (Ct.met_of rfl rfl) ?_
    refine DG.step (c := ⟨some 12, .ptr bx0 (0 + 0), [(11, .ptr bx0 (0 + 0)), (10, .bool (x0.reader.e == (0 : Int)))], [], []⟩) (fun t hm => One.step rfl (.on rfl rfl hm.s1 c_51) (OpT.nilCheck rfl (dl rfl rfl) hm.s0 rfl rfl)) (Ct.met_of rfl rfl) ?_
    refine DG.step (c := ⟨some 13, .ptr bx0 (0 + 0 + 1), [(12, .ptr bx0 (0 + 0)), (10, .bool (x0.reader.e == (0 : Int)))], [], []⟩) (fun t hm => One.step rfl (.on rfl rfl hm.s1 c_51) (OpT.fieldPtr rfl (dl rfl rfl) Try.underlying45 rfl i3 (by decide) hm.s0 rfl)) (Ct.met_of rfl rfl) ?_
    refine DG.step (c := ⟨some 14, .int .i64 x0.reader.at_, [(13, .ptr bx0 (0 + 0 + 1)), (10, .bool (x0.reader.e == (0 : Int)))], [(0, .box bx0 47 [.d (.str x0.reader.s), .d (.int .i64 x0.reader.at_), .d (.int .i64 x0.reader.where_), .d (.int .i64 x0.reader.e), .d (.ex wx0c1), .d (.int .i64 x0.deep)])], []⟩) (fun t hm => One.step rfl (.on rfl rfl hm.s1 c_51) (OpT.loadBox (i := 0) rfl (dl rfl rfl) Try.underlying3 rfl hm.s0 hm.o0 rfl rfl)) (Ct.met_of rfl rfl) ?_
    refine DG.step (c := ⟨some 15, .int .i64 x1, [(1, .int .i64 x1), (10, .bool (x0.reader.e == (0 : Int)))], [], []⟩) (fun t hm => One.step rfl (.on rfl rfl hm.s1 c_51) (OpT.move rfl (dl rfl rfl) hm.s0 rfl)) (Ct.met_of rfl rfl) ?_
    refine DG.step (c := ⟨some 16, .int .i64 (IntKind.i64.wrap (x0.reader.at_ + x1)), [(14, .int .i64 x0.reader.at_), (15, .int .i64 x1), (10, .bool (x0.reader.e == (0 : Int)))], [], []⟩) (fun t hm => One.step rfl (.on rfl rfl hm.s2 c_51) (OpT.int2 rfl rfl (dl rfl rfl) hm.s0 hm.s1 rfl)) (Ct.met_of rfl rfl) ?_
    refine DG.step (c := ⟨some 17, .ptr bx0 (0 + 0), [(0, .ptr bx0 (0 + 0)), (10, .bool (x0.reader.e == (0 : Int)))], [], []⟩) (fun t hm => One.step rfl (.on rfl rfl hm.s1 c_51) (OpT.move rfl (dl rfl rfl) hm.s0 rfl)) (Ct.met_of rfl rfl) ?_
    refine DG.step (c := ⟨some 18, .ptr bx0 (0 + 0), [(17, .ptr bx0 (0 + 0)), (10, .bool (x0.reader.e == (0 : Int)))], [], []⟩) (fun t hm => One.step rfl (.on rfl rfl hm.s1 c_51) (OpT.nilCheck rfl (dl rfl rfl) hm.s0 rfl rfl)) (Ct.met_of rfl rfl) ?_
    refine DG.step (c := ⟨some 19, .ptr bx0 (0 + 0 + 0), [(18, .ptr bx0 (0 + 0)), (10, .bool (x0.reader.e == (0 : Int)))], [], []⟩) (fun t hm => One.step rfl (.on rfl rfl hm.s1 c_51) (OpT.fieldPtr rfl (dl rfl rfl) Try.underlying45 rfl i9 (by decide) hm.s0 rfl)) (Ct.met_of rfl rfl) ?_
    refine DG.step (c := ⟨some 20, .str x0.reader.s, [(19, .ptr bx0 (0 + 0 + 0)), (10, .bool (x0.reader.e == (0 : Int)))], [(0, .box bx0 47 [.d (.str x0.reader.s), .d (.int .i64 x0.reader.at_), .d (.int .i64 x0.reader.where_), .d (.int .i64 x0.reader.e), .d (.ex wx0c1), .d (.int .i64 x0.deep)])], []⟩) (fun t hm => One.step rfl (.on rfl rfl hm.s1 c_51) (OpT.loadBox (i := 0) rfl (dl rfl rfl) Try.underlying9 rfl hm.s0 hm.o0 rfl rfl)) (Ct.met_of rfl rfl) ?_
    refine DG.step (c := ⟨some 21, .int .i64 (x0.reader.s.size : Int), [(20, .str x0.reader.s), (10, .bool (x0.reader.e == (0 : Int)))], [], []⟩) (fun t hm => One.step rfl (.on rfl rfl hm.s1 c_51) (OpT.lenStr rfl (dl rfl rfl) Try.underlying9 hm.s0 rfl)) (Ct.met_of rfl rfl) ?_
    refine DG.step (c := ⟨some 22, .bool (decide ((IntKind.i64.wrap (x0.reader.at_ + x1)) < (x0.reader.s.size : Int))), [(16, .int .i64 (IntKind.i64.wrap (x0.reader.at_ + x1))), (21, .int .i64 (x0.reader.s.size : Int)), (10, .bool (x0.reader.e == (0 : Int)))], [], []⟩) (fun t hm => One.step rfl (.on rfl rfl hm.s2 c_51) (OpT.int2 rfl rfl (dl rfl rfl) hm.s0 hm.s1 rfl)) (Ct.met_of rfl rfl) ?_
    refine DG.step (c := ⟨some 23, .bool (decide ((IntKind.i64.wrap (x0.reader.at_ + x1)) < (x0.reader.s.size : Int))), [(10, .bool (x0.reader.e == (0 : Int))), (22, .bool (decide ((IntKind.i64.wrap (x0.reader.at_ + x1)) < (x0.reader.s.size : Int))))], [], []⟩) (fun t hm => One.step rfl (.free rfl) (OpT.pickT rfl (dl rfl rfl) hm.s0 c_51 hm.s1 rfl)) (Ct.met_of rfl rfl) ?_
    refine DG.mv rfl rfl rfl rfl rfl rfl ?_
    rcases bif_some h with ⟨c_52, h⟩ | ⟨c_52, h⟩
    · refine DG.step (c := ⟨some 25, .ptr bx0 (0 + 0), [(0, .ptr bx0 (0 + 0)), (24, .bool (decide ((IntKind.i64.wrap (x0.reader.at_ + x1)) < (x0.reader.s.size : Int))))], [], []⟩) (fun t hm => One.step rfl (.on rfl rfl hm.s1 c_52) (OpT.move rfl (dl rfl rfl) hm.s0 rfl)) (Ct.met_of rfl rfl) ?_
      refine DG.step (c := ⟨some 26, .ptr bx0 (0 + 0), [(25, .ptr bx0 (0 + 0)), (24, .bool (decide ((IntKind.i64.wrap (x0.reader.at_ + x1)) < (x0.reader.s.size : Int))))], [], []⟩) (fun t hm => One.step rfl (.on rfl rfl hm.s1 c_52) (OpT.nilCheck rfl (dl rfl rfl) hm.s0 rfl rfl)) (Ct.met_of rfl rfl) ?_
      refine DG.step (c := ⟨some 27, .ptr bx0 (0 + 0 + 0), [(26, .ptr bx0 (0 + 0)), (24, .bool (decide ((IntKind.i64.wrap (x0.reader.at_ + x1)) < (x0.reader.s.size : Int))))], [], []⟩) (fun t hm => One.step rfl (.on rfl rfl hm.s1 c_52) (OpT.fieldPtr rfl (dl rfl rfl) Try.underlying45 rfl i9 (by decide) hm.s0 rfl)) (Ct.met_of rfl rfl) ?_
      refine DG.step (c := ⟨some 28, .str x0.reader.s, [(27, .ptr bx0 (0 + 0 + 0)), (24, .bool (decide ((IntKind.i64.wrap (x0.reader.at_ + x1)) < (x0.reader.s.size : Int))))], [(0, .box bx0 47 [.d (.str x0.reader.s), .d (.int .i64 x0.reader.at_), .d (.int .i64 x0.reader.where_), .d (.int .i64 x0.reader.e), .d (.ex wx0c1), .d (.int .i64 x0.deep)])], []⟩) (fun t hm => One.step rfl (.on rfl rfl hm.s1 c_52) (OpT.loadBox (i := 0) rfl (dl rfl rfl) Try.underlying9 rfl hm.s0 hm.o0 rfl rfl)) (Ct.met_of rfl rfl) ?_
      refine DG.step (c := ⟨some 29, .ptr bx0 (0 + 0), [(0, .ptr bx0 (0 + 0)), (24, .bool (decide ((IntKind.i64.wrap (x0.reader.at_ + x1)) < (x0.reader.s.size : Int))))], [], []⟩) (fun t hm => One.step rfl (.on rfl rfl hm.s1 c_52) (OpT.move rfl (dl rfl rfl) hm.s0 rfl)) (Ct.met_of rfl rfl) ?_
      refine DG.step (c := ⟨some 30, .ptr bx0 (0 + 0), [(29, .ptr bx0 (0 + 0)), (24, .bool (decide ((IntKind.i64.wrap (x0.reader.at_ + x1)) < (x0.reader.s.size : Int))))], [], []⟩) (fun t hm => One.step rfl (.on rfl rfl hm.s1 c_52) (OpT.nilCheck rfl (dl rfl rfl) hm.s0 rfl rfl)) (Ct.met_of rfl rfl) ?_
      refine DG.step (c := ⟨some 31, .ptr bx0 (0 + 0 + 1), [(30, .ptr bx0 (0 + 0)), (24, .bool (decide ((IntKind.i64.wrap (x0.reader.at_ + x1)) < (x0.reader.s.size : Int))))], [], []⟩) (fun t hm => One.step rfl (.on rfl rfl hm.s1 c_52) (OpT.fieldPtr rfl (dl rfl rfl) Try.underlying45 rfl i3 (by decide) hm.s0 rfl)) (Ct.met_of rfl rfl) ?_
      refine DG.step (c := ⟨some 32, .int .i64 x0.reader.at_, [(31, .ptr bx0 (0 + 0 + 1)), (24, .bool (decide ((IntKind.i64.wrap (x0.reader.at_ + x1)) < (x0.reader.s.size : Int))))], [(0, .box bx0 47 [.d (.str x0.reader.s), .d (.int .i64 x0.reader.at_), .d (.int .i64 x0.reader.where_), .d (.int .i64 x0.reader.e), .d (.ex wx0c1), .d (.int .i64 x0.deep)])], []⟩) (fun t hm => One.step rfl (.on rfl rfl hm.s1 c_52) (OpT.loadBox (i := 0) rfl (dl rfl rfl) Try.underlying3 rfl hm.s0 hm.o0 rfl rfl)) (Ct.met_of rfl rfl) ?_
      refine DG.step (c := ⟨some 33, .int .i64 x1, [(1, .int .i64 x1), (24, .bool (decide ((IntKind.i64.wrap (x0.reader.at_ + x1)) < (x0.reader.s.size : Int))))], [], []⟩) (fun t hm => One.step rfl (.on rfl rfl hm.s1 c_52) (OpT.move rfl (dl rfl rfl) hm.s0 rfl)) (Ct.met_of rfl rfl) ?_
      refine DG.step (c := ⟨some 34, .int .i64 (IntKind.i64.wrap (x0.reader.at_ + x1)), [(32, .int .i64 x0.reader.at_), (33, .int .i64 x1), (24, .bool (decide ((IntKind.i64.wrap (x0.reader.at_ + x1)) < (x0.reader.s.size : Int))))], [], []⟩) (fun t hm => One.step rfl (.on rfl rfl hm.s2 c_52) (OpT.int2 rfl rfl (dl rfl rfl) hm.s0 hm.s1 rfl)) (Ct.met_of rfl rfl) ?_
      obtain ⟨g_53, h⟩ := ck_some h
      refine DG.step (c := ⟨some 35, .int .u8 (bt x0.reader.s (IntKind.i64.wrap (x0.reader.at_ + x1))), [(28, .str x0.reader.s), (34, .int .i64 (IntKind.i64.wrap (x0.reader.at_ + x1))), (24, .bool (decide ((IntKind.i64.wrap (x0.reader.at_ + x1)) < (x0.reader.s.size : Int))))], [], []⟩) (fun t hm => One.step rfl (.on rfl rfl hm.s2 c_52) (OpT.indexStr rfl (dl rfl rfl) Try.underlying9 hm.s0 hm.s1 g_53.1 g_53.2 rfl)) (Ct.met_of rfl rfl) ?_
      obtain ⟨v_54, e_55, h⟩ := bind_some h
      refine DG.step (c := ⟨some 36, .bool v_54, [(35, .int .u8 (bt x0.reader.s (IntKind.i64.wrap (x0.reader.at_ + x1)))), (24, .bool (decide ((IntKind.i64.wrap (x0.reader.at_ + x1)) < (x0.reader.s.size : Int))))], [], []⟩) (fun t hm => One.step rfl (.on rfl rfl hm.s1 c_52) (OpT.callPA rfl (dl rfl rfl) Try.func23 rfl rfl (Args.cons hm.s0 Args.nil) (CallR.nil (syntax_digit_T K e_55)) rfl)) (Ct.met_of rfl rfl) ?_
      refine DG.step (c := ⟨some 37, .bool v_54, [(24, .bool (decide ((IntKind.i64.wrap (x0.reader.at_ + x1)) < (x0.reader.s.size : Int)))), (36, .bool v_54)], [], []⟩) (fun t hm => One.step rfl (.free rfl) (OpT.pickT rfl (dl rfl rfl) hm.s0 c_52 hm.s1 rfl)) (Ct.met_of rfl rfl) ?_
      refine DG.step (c := ⟨some 4, .bool v_54, [(37, .bool v_54)], [], []⟩) (fun t hm => One.step rfl (.free rfl) (OpT.assign rfl (dl rfl rfl) hm.s0 rfl)) (Ct.met_of rfl rfl) ?_
      refine DG.fin (s1 := ⟨[(4, .bool v_54)], [.box bx0 47 [.d (.str x0.reader.s), .d (.int .i64 x0.reader.at_), .d (.int .i64 x0.reader.where_), .d (.int .i64 x0.reader.e), .d (.ex wx0c1), .d (.int .i64 x0.deep)], .arrA wx0c1 36 9 (x0.nodes.map c_api_Node)]⟩) (ms := [0, 1, 3, 7, 15, 31, 63, 127, 255, 511, 63, 2047, 63, 4159, 12351, 28735, 61503, 131071, 262143, 524287, 1048575, 2097151, 4194303, 8388607, 1048575, 17825791, 51380223, 118489087, 1048575, 521142271, 1073741823, 2147483647, 4294967295, 8589934591]) TryMixed rfl (by kernel_rfl) (by kernel_rfl) (by kernel_rfl) (.cons rfl (.nil _)) rfl (fun u hu => (thenS_normal (T.by_turn hu ?_)))
      refine T.ret ?_
      exact Fin.doneK (.cons _ _ _ _ (.tmp 4 _ rfl) .nil) (.cons 0 rfl (.cons 0 rfl (.nil _))) (by cases h; exact ⟨gl [wx0c1], rfl, rfl⟩)
    · refine DG.off c_52 rfl rfl rfl rfl rfl rfl ?_
      refine DG.off c_52 rfl rfl rfl rfl rfl rfl ?_
      refine DG.off c_52 rfl rfl rfl rfl rfl rfl ?_
      refine DG.off c_52 rfl rfl rfl rfl rfl rfl ?_
      refine DG.off c_52 rfl rfl rfl rfl rfl rfl ?_
      refine DG.off c_52 rfl rfl rfl rfl rfl rfl ?_
      refine DG.off c_52 rfl rfl rfl rfl rfl rfl ?_
      refine DG.off c_52 rfl rfl rfl rfl rfl rfl ?_
      refine DG.off c_52 rfl rfl rfl rfl rfl rfl ?_
      refine DG.off c_52 rfl rfl rfl rfl rfl rfl ?_
      refine DG.off c_52 rfl rfl rfl rfl rfl rfl ?_
      refine DG.off c_52 rfl rfl rfl rfl rfl rfl ?_
      refine DG.step (c := ⟨some 37, .bool false, [(24, .bool (decide ((IntKind.i64.wrap (x0.reader.at_ + x1)) < (x0.reader.s.size : Int))))], [], []⟩) (fun t hm => One.step rfl (.free rfl) (OpT.pickF rfl (dl rfl rfl) hm.s0 c_52 rfl rfl)) (Ct.met_of rfl rfl) ?_
      refine DG.step (c := ⟨some 4, .bool false, [(37, .bool false)], [], []⟩) (fun t hm => One.step rfl (.free rfl) (OpT.assign rfl (dl rfl rfl) hm.s0 rfl)) (Ct.met_of rfl rfl) ?_
      refine DG.fin (s1 := ⟨[(4, .bool false)], [.box bx0 47 [.d (.str x0.reader.s), .d (.int .i64 x0.reader.at_), .d (.int .i64 x0.reader.where_), .d (.int .i64 x0.reader.e), .d (.ex wx0c1), .d (.int .i64 x0.deep)], .arrA wx0c1 36 9 (x0.nodes.map c_api_Node)]⟩) (ms := [0, 1, 3, 7, 15, 31, 63, 127, 255, 511, 63, 2047, 63, 4159, 12351, 28735, 61503, 131071, 262143, 524287, 1048575, 2097151, 4194303, 8388607, 1048575, 17825791, 51380223, 118489087, 1048575, 521142271, 1073741823, 2147483647, 4294967295, 8589934591]) TryMixed rfl (by kernel_rfl) (by kernel_rfl) (by kernel_rfl) (.cons rfl (.nil _)) rfl (fun u hu => (thenS_normal (T.by_turn hu ?_)))
      refine T.ret ?_
      exact Fin.doneK (.cons _ _ _ _ (.tmp 4 _ rfl) .nil) (.cons 0 rfl (.cons 0 rfl (.nil _))) (by cases h; exact ⟨gl [wx0c1], rfl, rfl⟩)
  · refine DG.off c_51 rfl rfl rfl rfl rfl rfl ?_
    refine DG.off c_51 rfl rfl rfl rfl rfl rfl ?_
    refine DG.off c_51 rfl rfl rfl rfl rfl rfl ?_
    refine DG.off c_51 rfl rfl rfl rfl rfl rfl ?_
    refine DG.off c_51 rfl rfl rfl rfl rfl rfl ?_
    refine DG.off c_51 rfl rfl rfl rfl rfl rfl ?_
    refine DG.off c_51 rfl rfl rfl rfl rfl rfl ?_
    refine DG.off c_51 rfl rfl rfl rfl rfl rfl ?_
    refine DG.off c_51 rfl rfl rfl rfl rfl rfl ?_
    refine DG.off c_51 rfl rfl rfl rfl rfl rfl ?_
    refine DG.off c_51 rfl rfl rfl rfl rfl rfl ?_
    refine DG.off c_51 rfl rfl rfl rfl rfl rfl ?_
    refine DG.step (c := ⟨some 23, .bool false, [(10, .bool (x0.reader.e == (0 : Int)))], [], []⟩) (fun t hm => One.step rfl (.free rfl) (OpT.pickF rfl (dl rfl rfl) hm.s0 c_51 rfl rfl)) (Ct.met_of rfl rfl) ?_
    refine DG.mv rfl rfl rfl rfl rfl rfl ?_
    refine DG.off rfl rfl rfl rfl rfl rfl rfl ?_
    refine DG.off rfl rfl rfl rfl rfl rfl rfl ?_
    refine DG.off rfl rfl rfl rfl rfl rfl rfl ?_
    refine DG.off rfl rfl rfl rfl rfl rfl rfl ?_
    refine DG.off rfl rfl rfl rfl rfl rfl rfl ?_
    refine DG.off rfl rfl rfl rfl rfl rfl rfl ?_
    refine DG.off rfl rfl rfl rfl rfl rfl rfl ?_
    refine DG.off rfl rfl rfl rfl rfl rfl rfl ?_
    refine DG.off rfl rfl rfl rfl rfl rfl rfl ?_
    refine DG.off rfl rfl rfl rfl rfl rfl rfl ?_
    refine DG.off rfl rfl rfl rfl rfl rfl rfl ?_
    refine DG.off rfl rfl rfl rfl rfl rfl rfl ?_
    refine DG.step (c := ⟨some 37, .bool false, [(24, .bool false)], [], []⟩) (fun t hm => One.step rfl (.free rfl) (OpT.pickF rfl (dl rfl rfl) hm.s0 rfl rfl rfl)) (Ct.met_of rfl rfl) ?_
    refine DG.step (c := ⟨some 4, .bool false, [(37, .bool false)], [], []⟩) (fun t hm => One.step rfl (.free rfl) (OpT.assign rfl (dl rfl rfl) hm.s0 rfl)) (Ct.met_of rfl rfl) ?_
    refine DG.fin (s1 := ⟨[(4, .bool false)], [.box bx0 47 [.d (.str x0.reader.s), .d (.int .i64 x0.reader.at_), .d (.int .i64 x0.reader.where_), .d (.int .i64 x0.reader.e), .d (.ex wx0c1), .d (.int .i64 x0.deep)], .arrA wx0c1 36 9 (x0.nodes.map c_api_Node)]⟩) (ms := [0, 1, 3, 7, 15, 31, 63, 127, 255, 511, 63, 2047, 63, 4159, 12351, 28735, 61503, 131071, 262143, 524287, 1048575, 2097151, 4194303, 8388607, 1048575, 17825791, 51380223, 118489087, 1048575, 521142271, 1073741823, 2147483647, 4294967295, 8589934591]) TryMixed rfl (by kernel_rfl) (by kernel_rfl) (by kernel_rfl) (.cons rfl (.nil _)) rfl (fun u hu => (thenS_normal (T.by_turn hu ?_)))
    refine T.ret ?_
    exact Fin.doneK (.cons _ _ _ _ (.tmp 4 _ rfl) .nil) (.cons 0 rfl (.cons 0 rfl (.nil _))) (by cases h; exact ⟨gl [wx0c1], rfl, rfl⟩)

abbrev stringslite_IndexByte_q (r : Int) : Exit → St → Prop := retS Try.prog Try.f55 (fun y t => y = (.int .i64 r) ∧ t = [])

theorem stringslite_IndexByte_T (K : Nat) {x0 : ByteArray} {x1 : Int} {r : Int} (h : stringslite_IndexByte K x0 x1 = some r) : CallR Try.prog 55 [.str x0, .int .u8 x1] [] (.int .i64 r) := by
  refine CallT.intro Try.func55 rfl (Nat.le_of_ble_eq_true rfl) ?_
  show T Try.prog 8 (Code.at [] (codeOf Try.f55)) ⟨paramSlots 0 [.str x0, .int .u8 x1], []⟩ (stringslite_IndexByte_q r)
  unfold stringslite_IndexByte at h
  refine T.seq ?_
  refine T.regionL ?_
  refine asg rfl rfl rfl rfl rfl ?_
  refine TL'.nil (thenS_normal ?_)
  refine T.seq ?_
  refine T.regionL ?_
  refine mv rfl rfl rfl rfl rfl ?_
  refine mv rfl rfl rfl rfl rfl ?_
  refine sp rfl (OpT.indexByteStr rfl (dl rfl rfl) Try.func58 rfl rfl (by kernel_rfl) (by kernel_rfl) rfl rfl ?_)
  refine asg rfl rfl rfl rfl rfl ?_
  refine TL'.nil (thenS_normal ?_)
  refine T.ret ?_
  exact Fin.done (.cons _ _ _ _ (.tmp 4 _ rfl) .nil) (by cases h; exact ⟨rfl, rfl⟩)

abbrev strings_IndexByte_q (r : Int) : Exit → St → Prop := retS Try.prog Try.f49 (fun y t => y = (.int .i64 r) ∧ t = [])

theorem strings_IndexByte_T (K : Nat) {x0 : ByteArray} {x1 : Int} {r : Int} (h : strings_IndexByte K x0 x1 = some r) : CallR Try.prog 49 [.str x0, .int .u8 x1] [] (.int .i64 r) := by
  refine CallT.intro Try.func49 rfl (Nat.le_of_ble_eq_true rfl) ?_
  show T Try.prog 8 (Code.at [] (codeOf Try.f49)) ⟨paramSlots 0 [.str x0, .int .u8 x1], []⟩ (strings_IndexByte_q r)
  unfold strings_IndexByte at h
  refine T.seq ?_
  refine T.regionL ?_
  refine asg rfl rfl rfl rfl rfl ?_
  refine TL'.nil (thenS_normal ?_)
  refine T.seq ?_
  refine T.regionL ?_
  refine mv rfl rfl rfl rfl rfl ?_
  refine mv rfl rfl rfl rfl rfl ?_
  obtain ⟨v_7, e_8, h⟩ := bind_some h
  refine sp rfl (OpT.callPA rfl (dl rfl rfl) Try.func55 rfl rfl (Args.cons rfl (Args.cons rfl Args.nil)) (CallR.nil (stringslite_IndexByte_T K e_8)) ?_)
  refine asg rfl rfl rfl rfl rfl ?_
  refine TL'.nil (thenS_normal ?_)
  refine T.ret ?_
  exact Fin.done (.cons _ _ _ _ (.tmp 4 _ rfl) .nil) (by cases h; exact ⟨rfl, rfl⟩)

abbrev syntax_reader_fail_q (bx0 : Nat) (r : syntax_parser) : Exit → St → Prop := retS Try.prog Try.f20 (fun y t => ∃ γ : Nat → Value, y = (.tup []) ∧ t = [.box bx0 47 [.d (.str r.reader.s), .d (.int .i64 r.reader.at_), .d (.int .i64 r.reader.where_), .d (.int .i64 r.reader.e), .d (.ex (γ 0)), .d (.int .i64 r.deep)], .arrA (γ 0) 36 9 (r.nodes.map c_api_Node)])

theorem syntax_reader_fail_T (K : Nat) {x0 : syntax_parser} {x1 : Int} {x2 : Int} {bx0 : Nat} {wx0c1 : Value} {r : syntax_parser} (h : syntax_reader_fail K x0 x1 x2 = some r) : CallG Try.prog 20 [.ptr bx0 (0 + 0), .int .i64 x1, .int .i64 x2] [.box bx0 47 [.d (.str x0.reader.s), .d (.int .i64 x0.reader.at_), .d (.int .i64 x0.reader.where_), .d (.int .i64 x0.reader.e), .d (.ex wx0c1), .d (.int .i64 x0.deep)], .arrA wx0c1 36 9 (x0.nodes.map c_api_Node)] (fun γ => (.tup [])) (fun γ => [.box bx0 47 [.d (.str r.reader.s), .d (.int .i64 r.reader.at_), .d (.int .i64 r.reader.where_), .d (.int .i64 r.reader.e), .d (.ex (γ 0)), .d (.int .i64 r.deep)], .arrA (γ 0) 36 9 (r.nodes.map c_api_Node)]) := by
  refine CallT.intro Try.func20 rfl (Nat.le_of_ble_eq_true rfl) ?_
  show T Try.prog 19 (Code.at [] (codeOf Try.f20)) ⟨paramSlots 0 [.ptr bx0 (0 + 0), .int .i64 x1, .int .i64 x2], [.box bx0 47 [.d (.str x0.reader.s), .d (.int .i64 x0.reader.at_), .d (.int .i64 x0.reader.where_), .d (.int .i64 x0.reader.e), .d (.ex wx0c1), .d (.int .i64 x0.deep)], .arrA wx0c1 36 9 (x0.nodes.map c_api_Node)]⟩ (syntax_reader_fail_q bx0 r)
  unfold syntax_reader_fail at h
  refine T.seq ?_
  refine T.regionL ?_
  refine mv rfl rfl rfl rfl rfl ?_
  refine sp rfl (OpT.nilCheck rfl (dl rfl rfl) rfl rfl ?_)
  refine sp rfl (OpT.fieldPtr rfl (dl rfl rfl) Try.underlying45 rfl i24 (by decide) rfl ?_)
  refine sp rfl (OpT.loadBox (i := 0) rfl (dl rfl rfl) Try.underlying24 rfl rfl rfl rfl ?_)
  refine sp rfl (OpT.int2 rfl rfl (dl rfl rfl) rfl rfl ?_)
  refine TL'.nil (thenS_normal ?_)
  rcases bif_some h with ⟨c_5, h⟩ | ⟨c_5, h⟩
  · refine T.condT rfl c_5 ?_
    refine T.regionL ?_
    refine mv rfl rfl rfl rfl rfl ?_
    refine mv rfl rfl rfl rfl rfl ?_
    refine mv rfl rfl rfl rfl rfl ?_
    refine mv rfl rfl rfl rfl rfl ?_
    refine sp rfl (OpT.nilCheck rfl (dl rfl rfl) rfl rfl ?_)
    refine sp rfl (OpT.fieldPtr rfl (dl rfl rfl) Try.underlying45 rfl i24 (by decide) rfl ?_)
    refine sp rfl (OpT.storeTo (i := 0) (cells' := [.d (.str x0.reader.s), .d (.int .i64 x0.reader.at_), .d (.int .i64 x0.reader.where_), .d (.int .i64 x1), .d (.ex wx0c1), .d (.int .i64 x0.deep)]) rfl rfl i24 rfl rfl rfl (Nat.le_of_ble_eq_true rfl) rfl ?_)
    refine sp rfl (OpT.nilCheck rfl (dl rfl rfl) rfl rfl ?_)
    refine sp rfl (OpT.fieldPtr rfl (dl rfl rfl) Try.underlying45 rfl i3 (by decide) rfl ?_)
    refine sp rfl (OpT.storeTo (i := 0) (cells' := [.d (.str x0.reader.s), .d (.int .i64 x0.reader.at_), .d (.int .i64 x2), .d (.int .i64 x1), .d (.ex wx0c1), .d (.int .i64 x0.deep)]) rfl rfl i3 rfl rfl rfl (Nat.le_of_ble_eq_true rfl) rfl ?_)
    refine TL'.nil ?_
    exact Fin.doneK (.nil) (.cons 0 rfl (.cons 0 rfl (.nil _))) (by cases h; exact ⟨gl [wx0c1], rfl, rfl⟩)
  · refine T.condF rfl c_5 ?_
    refine T.skip ?_
    exact Fin.doneK (.nil) (.cons 0 rfl (.cons 0 rfl (.nil _))) (by cases h; exact ⟨gl [wx0c1], rfl, rfl⟩)

abbrev syntax_reader_next_q (bx0 : Nat) (r : Int × syntax_parser) : Exit → St → Prop := retS Try.prog Try.f44 (fun y t => ∃ γ : Nat → Value, y = (.int .u8 r.1) ∧ t = [.box bx0 47 [.d (.str r.2.reader.s), .d (.int .i64 r.2.reader.at_), .d (.int .i64 r.2.reader.where_), .d (.int .i64 r.2.reader.e), .d (.ex (γ 0)), .d (.int .i64 r.2.deep)], .arrA (γ 0) 36 9 (r.2.nodes.map c_api_Node)])

theorem syntax_reader_next_T (K : Nat) {x0 : syntax_parser} {bx0 : Nat} {wx0c1 : Value} {r : Int × syntax_parser} (h : syntax_reader_next K x0 = some r) : CallG Try.prog 44 [.ptr bx0 (0 + 0)] [.box bx0 47 [.d (.str x0.reader.s), .d (.int .i64 x0.reader.at_), .d (.int .i64 x0.reader.where_), .d (.int .i64 x0.reader.e), .d (.ex wx0c1), .d (.int .i64 x0.deep)], .arrA wx0c1 36 9 (x0.nodes.map c_api_Node)] (fun γ => (.int .u8 r.1)) (fun γ => [.box bx0 47 [.d (.str r.2.reader.s), .d (.int .i64 r.2.reader.at_), .d (.int .i64 r.2.reader.where_), .d (.int .i64 r.2.reader.e), .d (.ex (γ 0)), .d (.int .i64 r.2.deep)], .arrA (γ 0) 36 9 (r.2.nodes.map c_api_Node)]) := by
  refine CallT.intro Try.func44 rfl (Nat.le_of_ble_eq_true rfl) ?_
  show T Try.prog 27 (Code.at [] (codeOf Try.f44)) ⟨paramSlots 0 [.ptr bx0 (0 + 0)], [.box bx0 47 [.d (.str x0.reader.s), .d (.int .i64 x0.reader.at_), .d (.int .i64 x0.reader.where_), .d (.int .i64 x0.reader.e), .d (.ex wx0c1), .d (.int .i64 x0.deep)], .arrA wx0c1 36 9 (x0.nodes.map c_api_Node)]⟩ (syntax_reader_next_q bx0 r)
  unfold syntax_reader_next at h
  refine T.seq ?_
  refine T.regionL ?_
  refine asg rfl rfl rfl rfl rfl ?_
  refine TL'.nil (thenS_normal ?_)
  refine T.seq ?_
  refine T.regionL ?_
  refine mv rfl rfl rfl rfl rfl ?_
  obtain ⟨v_29, e_30, h⟩ := bind_some h
  refine sp rfl (OpT.callG (is := [0, 1]) (ph := []) rfl (dl rfl rfl) Try.func19 rfl rfl (Args.cons rfl Args.nil) (syntax_reader_peek_T K (bx0 := bx0) (wx0c1 := wx0c1) e_30) (.cons rfl rfl (.cons rfl rfl (.nil))) (fun _ => rfl) (fun γ_31 => ?_))
  refine nm (.c (.c (.n))) ?_
  refine mv rfl rfl rfl rfl rfl ?_
  refine sp rfl (OpT.extract rfl (dl rfl rfl) rfl rfl ?_)
  refine sp rfl (OpT.extract rfl (dl rfl rfl) rfl rfl ?_)
  refine asg rfl rfl rfl rfl rfl ?_
  refine asg rfl rfl rfl rfl rfl ?_
  refine TL'.nil (thenS_normal ?_)
  refine T.seq ?_
  refine T.seq ?_
  refine T.regionL ?_
  refine mv rfl rfl rfl rfl rfl ?_
  refine sp rfl (OpT.not rfl (dl rfl rfl) rfl ?_)
  refine TL'.nil (thenS_normal ?_)
  rcases bif_some h with ⟨c_32, h⟩ | ⟨c_32, h⟩
  · refine T.condT rfl c_32 ?_
    refine T.seq ?_
    refine T.regionL ?_
    refine mv rfl rfl rfl rfl rfl ?_
    refine mv rfl rfl rfl rfl rfl ?_
    refine sp rfl (OpT.nilCheck rfl (dl rfl rfl) rfl rfl ?_)
    refine sp rfl (OpT.fieldPtr rfl (dl rfl rfl) Try.underlying45 rfl i9 (by decide) rfl ?_)
    refine sp rfl (OpT.loadBox (i := 0) rfl (dl rfl rfl) Try.underlying9 rfl rfl rfl rfl ?_)
    refine sp rfl (OpT.lenStr rfl (dl rfl rfl) Try.underlying9 rfl ?_)
    obtain ⟨v_33, e_34, h⟩ := bind_some h
    refine sp rfl (OpT.callG (is := [0, 1]) (ph := []) rfl (dl rfl rfl) Try.func20 rfl rfl (Args.cons rfl (Args.cons rfl (Args.cons rfl Args.nil))) (syntax_reader_fail_T K (bx0 := bx0) (wx0c1 := (γ_31 0)) e_34) (.cons rfl rfl (.cons rfl rfl (.nil))) (fun _ => rfl) (fun γ_35 => ?_))
    refine nm (.c (.c (.n))) ?_
    refine TL'.nil (thenS_normal ?_)
    refine T.seq ?_
    refine T.regionL ?_
    refine asg rfl rfl rfl rfl rfl ?_
    refine TL'.nil (thenS_normal ?_)
    refine T.ret (thenS_ret ?_)
    exact Fin.doneK (.cons _ _ _ _ (.tmp 2 _ rfl) .nil) (.cons 0 rfl (.cons 0 rfl (.nil _))) (by cases h; exact ⟨gl [γ_35 0], rfl, rfl⟩)
  · refine T.condF rfl c_32 ?_
    refine T.skip (thenS_normal ?_)
    refine T.seq ?_
    refine T.regionL ?_
    refine mv rfl rfl rfl rfl rfl ?_
    refine sp rfl (OpT.nilCheck rfl (dl rfl rfl) rfl rfl ?_)
    refine sp rfl (OpT.fieldPtr rfl (dl rfl rfl) Try.underlying45 rfl i3 (by decide) rfl ?_)
    refine sp rfl (OpT.loadBox (i := 0) rfl (dl rfl rfl) Try.underlying3 rfl rfl rfl rfl ?_)
    refine sp rfl (OpT.int2 rfl rfl (dl rfl rfl) rfl rfl ?_)
    refine sp rfl (OpT.nilCheck rfl (dl rfl rfl) rfl rfl ?_)
    refine sp rfl (OpT.fieldPtr rfl (dl rfl rfl) Try.underlying45 rfl i3 (by decide) rfl ?_)
    refine sp rfl (OpT.storeTo (i := 0) (cells' := [.d (.str x0.reader.s), .d (.int .i64 (IntKind.i64.wrap (x0.reader.at_ + (1 : Int)))), .d (.int .i64 x0.reader.where_), .d (.int .i64 x0.reader.e), .d (.ex (γ_31 0)), .d (.int .i64 x0.deep)]) rfl rfl i3 rfl rfl rfl (Nat.le_of_ble_eq_true rfl) rfl ?_)
    refine TL'.nil (thenS_normal ?_)
    refine T.seq ?_
    refine T.regionL ?_
    refine mv rfl rfl rfl rfl rfl ?_
    refine asg rfl rfl rfl rfl rfl ?_
    refine TL'.nil (thenS_normal ?_)
    refine T.ret ?_
    exact Fin.doneK (.cons _ _ _ _ (.tmp 2 _ rfl) .nil) (.cons 0 rfl (.cons 0 rfl (.nil _))) (by cases h; exact ⟨gl [γ_31 0], rfl, rfl⟩)

abbrev syntax_nibble_q (r : Int × Bool) : Exit → St → Prop := retS Try.prog Try.f60 (fun y t => y = (.tup [.int .u8 r.1, .bool r.2]) ∧ t = [])

theorem syntax_nibble_T (K : Nat) {x0 : Int} {r : Int × Bool} (h : syntax_nibble K x0 = some r) : CallR Try.prog 60 [.int .u8 x0] [] (.tup [.int .u8 r.1, .bool r.2]) := by
  refine CallT.intro Try.func60 rfl (Nat.le_of_ble_eq_true rfl) ?_
  show T Try.prog 12 (Code.at [] (codeOf Try.f60)) ⟨paramSlots 0 [.int .u8 x0], []⟩ (syntax_nibble_q r)
  unfold syntax_nibble at h
  refine T.seq ?_
  refine T.regionL ?_
  refine asg rfl rfl rfl rfl rfl ?_
  refine asg rfl rfl rfl rfl rfl ?_
  refine TL'.nil (thenS_normal ?_)
  refine T.seq ?_
  refine T.regionL ?_
  refine mv rfl rfl rfl rfl rfl ?_
  obtain ⟨v_7, e_8, h⟩ := bind_some h
  refine sp rfl (OpT.callPA rfl (dl rfl rfl) Try.func49 rfl rfl (Args.cons rfl (Args.cons rfl Args.nil)) (CallR.nil (strings_IndexByte_T K e_8)) ?_)
  refine asg rfl rfl rfl rfl rfl ?_
  refine TL'.nil (thenS_normal ?_)
  refine T.seq ?_
  refine T.regionL ?_
  refine mv rfl rfl rfl rfl rfl ?_
  refine sp rfl (OpT.max2 rfl (dl rfl rfl) rfl rfl ?_)
  refine sp rfl (OpT.convInt rfl (dl rfl rfl) Try.underlying3 Try.underlying5 rfl ?_)
  refine mv rfl rfl rfl rfl rfl ?_
  refine sp rfl (OpT.int2 rfl rfl (dl rfl rfl) rfl rfl ?_)
  refine asg rfl rfl rfl rfl rfl ?_
  refine asg rfl rfl rfl rfl rfl ?_
  refine TL'.nil (thenS_normal ?_)
  refine T.ret ?_
  exact Fin.done (.cons _ _ _ _ (.tmp 2 _ rfl) (.cons _ _ _ _ (.tmp 3 _ rfl) .nil)) (by cases h; exact ⟨rfl, rfl⟩)

abbrev syntax_reader_pair_q (bx0 : Nat) (r : Int × Bool × syntax_parser) : Exit → St → Prop := retS Try.prog Try.f59 (fun y t => ∃ γ : Nat → Value, y = (.tup [.int .u8 r.1, .bool r.2.1]) ∧ t = [.box bx0 47 [.d (.str r.2.2.reader.s), .d (.int .i64 r.2.2.reader.at_), .d (.int .i64 r.2.2.reader.where_), .d (.int .i64 r.2.2.reader.e), .d (.ex (γ 0)), .d (.int .i64 r.2.2.deep)], .arrA (γ 0) 36 9 (r.2.2.nodes.map c_api_Node)])

theorem syntax_reader_pair_T (K : Nat) {x0 : syntax_parser} {bx0 : Nat} {wx0c1 : Value} {r : Int × Bool × syntax_parser} (h : syntax_reader_pair K x0 = some r) : CallG Try.prog 59 [.ptr bx0 (0 + 0)] [.box bx0 47 [.d (.str x0.reader.s), .d (.int .i64 x0.reader.at_), .d (.int .i64 x0.reader.where_), .d (.int .i64 x0.reader.e), .d (.ex wx0c1), .d (.int .i64 x0.deep)], .arrA wx0c1 36 9 (x0.nodes.map c_api_Node)] (fun γ => (.tup [.int .u8 r.1, .bool r.2.1])) (fun γ => [.box bx0 47 [.d (.str r.2.2.reader.s), .d (.int .i64 r.2.2.reader.at_), .d (.int .i64 r.2.2.reader.where_), .d (.int .i64 r.2.2.reader.e), .d (.ex (γ 0)), .d (.int .i64 r.2.2.deep)], .arrA (γ 0) 36 9 (r.2.2.nodes.map c_api_Node)]) := by
  refine CallT.intro Try.func59 rfl (Nat.le_of_ble_eq_true rfl) ?_
  show T Try.prog 46 (Code.at [] (codeOf Try.f59)) ⟨paramSlots 0 [.ptr bx0 (0 + 0)], [.box bx0 47 [.d (.str x0.reader.s), .d (.int .i64 x0.reader.at_), .d (.int .i64 x0.reader.where_), .d (.int .i64 x0.reader.e), .d (.ex wx0c1), .d (.int .i64 x0.deep)], .arrA wx0c1 36 9 (x0.nodes.map c_api_Node)]⟩ (syntax_reader_pair_q bx0 r)
  unfold syntax_reader_pair at h
  refine T.seq ?_
  refine T.regionL ?_
  refine asg rfl rfl rfl rfl rfl ?_
  refine asg rfl rfl rfl rfl rfl ?_
  refine TL'.nil (thenS_normal ?_)
  refine T.seq ?_
  refine T.seq ?_
  refine DG.start ?_
  refine DG.mv rfl rfl rfl rfl rfl rfl ?_
  refine DG.step (c := ⟨some 9, .ptr bx0 (0 + 0), [(8, .ptr bx0 (0 + 0))], [], []⟩) (fun t hm => One.step rfl (.free rfl) (OpT.nilCheck rfl (dl rfl rfl) hm.s0 rfl rfl)) (Ct.met_of rfl rfl) ?_
  refine DG.step (c := ⟨some 10, .ptr bx0 (0 + 0 + 1), [(9, .ptr bx0 (0 + 0))], [], []⟩) (fun t hm => One.step rfl (.free rfl) (OpT.fieldPtr rfl (dl rfl rfl) Try.underlying45 rfl i3 (by decide) hm.s0 rfl)) (Ct.met_of rfl rfl) ?_
  refine DG.step (c := ⟨some 11, .int .i64 x0.reader.at_, [(10, .ptr bx0 (0 + 0 + 1))], [(0, .box bx0 47 [.d (.str x0.reader.s), .d (.int .i64 x0.reader.at_), .d (.int .i64 x0.reader.where_), .d (.int .i64 x0.reader.e), .d (.ex wx0c1), .d (.int .i64 x0.deep)])], []⟩) (fun t hm => One.step rfl (.free rfl) (OpT.loadBox (i := 0) rfl (dl rfl rfl) Try.underlying3 rfl hm.s0 hm.o0 rfl rfl)) (Ct.met_of rfl rfl) ?_
  refine DG.step (c := ⟨some 12, .int .i64 (IntKind.i64.wrap (x0.reader.at_ + (2 : Int))), [(11, .int .i64 x0.reader.at_)], [], []⟩) (fun t hm => One.step rfl (.free rfl) (OpT.int2 rfl rfl (dl rfl rfl) hm.s0 rfl rfl)) (Ct.met_of rfl rfl) ?_
  refine DG.mv rfl rfl rfl rfl rfl rfl ?_
  refine DG.step (c := ⟨some 14, .ptr bx0 (0 + 0), [(13, .ptr bx0 (0 + 0))], [], []⟩) (fun t hm => One.step rfl (.free rfl) (OpT.nilCheck rfl (dl rfl rfl) hm.s0 rfl rfl)) (Ct.met_of rfl rfl) ?_
  refine DG.step (c := ⟨some 15, .ptr bx0 (0 + 0 + 0), [(14, .ptr bx0 (0 + 0))], [], []⟩) (fun t hm => One.step rfl (.free rfl) (OpT.fieldPtr rfl (dl rfl rfl) Try.underlying45 rfl i9 (by decide) hm.s0 rfl)) (Ct.met_of rfl rfl) ?_
  refine DG.step (c := ⟨some 16, .str x0.reader.s, [(15, .ptr bx0 (0 + 0 + 0))], [(0, .box bx0 47 [.d (.str x0.reader.s), .d (.int .i64 x0.reader.at_), .d (.int .i64 x0.reader.where_), .d (.int .i64 x0.reader.e), .d (.ex wx0c1), .d (.int .i64 x0.deep)])], []⟩) (fun t hm => One.step rfl (.free rfl) (OpT.loadBox (i := 0) rfl (dl rfl rfl) Try.underlying9 rfl hm.s0 hm.o0 rfl rfl)) (Ct.met_of rfl rfl) ?_
  refine DG.step (c := ⟨some 17, .int .i64 (x0.reader.s.size : Int), [(16, .str x0.reader.s)], [], []⟩) (fun t hm => One.step rfl (.free rfl) (OpT.lenStr rfl (dl rfl rfl) Try.underlying9 hm.s0 rfl)) (Ct.met_of rfl rfl) ?_
  refine DG.step (c := ⟨some 18, .bool (decide ((IntKind.i64.wrap (x0.reader.at_ + (2 : Int))) > (x0.reader.s.size : Int))), [(12, .int .i64 (IntKind.i64.wrap (x0.reader.at_ + (2 : Int)))), (17, .int .i64 (x0.reader.s.size : Int))], [], []⟩) (fun t hm => One.step rfl (.free rfl) (OpT.int2 rfl rfl (dl rfl rfl) hm.s0 hm.s1 rfl)) (Ct.met_of rfl rfl) ?_
  refine DG.fin (s1 := ⟨[(0, .ptr bx0 (0 + 0)), (18, .bool (decide ((IntKind.i64.wrap (x0.reader.at_ + (2 : Int))) > (x0.reader.s.size : Int))))], [.box bx0 47 [.d (.str x0.reader.s), .d (.int .i64 x0.reader.at_), .d (.int .i64 x0.reader.where_), .d (.int .i64 x0.reader.e), .d (.ex wx0c1), .d (.int .i64 x0.deep)], .arrA wx0c1 36 9 (x0.nodes.map c_api_Node)]⟩) (ms := [0, 1, 3, 7, 15, 0, 32, 96, 224, 480, 1023]) TryMixed rfl (by kernel_rfl) (by kernel_rfl) (by kernel_rfl) (.cons rfl (.cons rfl (.nil _))) rfl (fun u hu => (thenS_normal (T.by_turn hu ?_)))
  rcases bif_some h with ⟨c_66, h⟩ | ⟨c_66, h⟩
  · refine T.condT rfl c_66 ?_
    refine T.seq ?_
    refine T.regionL ?_
    refine mv rfl rfl rfl rfl rfl ?_
    refine mv rfl rfl rfl rfl rfl ?_
    refine sp rfl (OpT.nilCheck rfl (dl rfl rfl) rfl rfl ?_)
    refine sp rfl (OpT.fieldPtr rfl (dl rfl rfl) Try.underlying45 rfl i9 (by decide) rfl ?_)
    refine sp rfl (OpT.loadBox (i := 0) rfl (dl rfl rfl) Try.underlying9 rfl rfl rfl rfl ?_)
    refine sp rfl (OpT.lenStr rfl (dl rfl rfl) Try.underlying9 rfl ?_)
    obtain ⟨v_67, e_68, h⟩ := bind_some h
    refine sp rfl (OpT.callG (is := [0, 1]) (ph := []) rfl (dl rfl rfl) Try.func20 rfl rfl (Args.cons rfl (Args.cons rfl (Args.cons rfl Args.nil))) (syntax_reader_fail_T K (bx0 := bx0) (wx0c1 := wx0c1) e_68) (.cons rfl rfl (.cons rfl rfl (.nil))) (fun _ => rfl) (fun γ_69 => ?_))
    refine nm (.c (.c (.n))) ?_
    refine TL'.nil (thenS_normal ?_)
    refine T.seq ?_
    refine T.regionL ?_
    refine asg rfl rfl rfl rfl rfl ?_
    refine asg rfl rfl rfl rfl rfl ?_
    refine TL'.nil (thenS_normal ?_)
    refine T.ret (thenS_ret ?_)
    exact Fin.doneK (.cons _ _ _ _ (.tmp 2 _ rfl) (.cons _ _ _ _ (.tmp 3 _ rfl) .nil)) (.cons 0 rfl (.cons 0 rfl (.nil _))) (by cases h; exact ⟨gl [γ_69 0], rfl, rfl⟩)
  · refine T.condF rfl c_66 ?_
    refine T.skip (thenS_normal ?_)
    refine T.seq ?_
    refine T.regionL ?_
    refine mv rfl rfl rfl rfl rfl ?_
    obtain ⟨v_70, e_71, h⟩ := bind_some h
    refine sp rfl (OpT.callG (is := [0, 1]) (ph := []) rfl (dl rfl rfl) Try.func44 rfl rfl (Args.cons rfl Args.nil) (syntax_reader_next_T K (bx0 := bx0) (wx0c1 := wx0c1) e_71) (.cons rfl rfl (.cons rfl rfl (.nil))) (fun _ => rfl) (fun γ_72 => ?_))
    refine nm (.c (.c (.n))) ?_
    obtain ⟨v_73, e_74, h⟩ := bind_some h
    refine sp rfl (OpT.callPA rfl (dl rfl rfl) Try.func60 rfl rfl (Args.cons rfl Args.nil) (CallR.nil (syntax_nibble_T K e_74)) ?_)
    refine mv rfl rfl rfl rfl rfl ?_
    refine sp rfl (OpT.extract rfl (dl rfl rfl) rfl rfl ?_)
    refine sp rfl (OpT.extract rfl (dl rfl rfl) rfl rfl ?_)
    refine asg rfl rfl rfl rfl rfl ?_
    refine asg rfl rfl rfl rfl rfl ?_
    refine TL'.nil (thenS_normal ?_)
    refine T.seq ?_
    refine T.regionL ?_
    refine mv rfl rfl rfl rfl rfl ?_
    obtain ⟨v_75, e_76, h⟩ := bind_some h
    refine sp rfl (OpT.callG (is := [0, 1]) (ph := []) rfl (dl rfl rfl) Try.func44 rfl rfl (Args.cons rfl Args.nil) (syntax_reader_next_T K (bx0 := bx0) (wx0c1 := (γ_72 0)) e_76) (.cons rfl rfl (.cons rfl rfl (.nil))) (fun _ => rfl) (fun γ_77 => ?_))
    refine nm (.c (.c (.n))) ?_
    obtain ⟨v_78, e_79, h⟩ := bind_some h
    refine sp rfl (OpT.callPA rfl (dl rfl rfl) Try.func60 rfl rfl (Args.cons rfl Args.nil) (CallR.nil (syntax_nibble_T K e_79)) ?_)
    refine mv rfl rfl rfl rfl rfl ?_
    refine sp rfl (OpT.extract rfl (dl rfl rfl) rfl rfl ?_)
    refine sp rfl (OpT.extract rfl (dl rfl rfl) rfl rfl ?_)
    refine asg rfl rfl rfl rfl rfl ?_
    refine asg rfl rfl rfl rfl rfl ?_
    refine TL'.nil (thenS_normal ?_)
    refine T.seq ?_
    refine T.regionL ?_
    refine mv rfl rfl rfl rfl rfl ?_
    refine sp rfl (OpT.shl rfl (dl rfl rfl) rfl rfl (by decide) ?_)
    refine mv rfl rfl rfl rfl rfl ?_
    refine sp rfl (OpT.int2 rfl rfl (dl rfl rfl) rfl rfl ?_)
    refine mv rfl rfl rfl rfl rfl ?_
    refine mv rfl rfl rfl rfl rfl ?_
    rcases bif_some h with ⟨c_80, h⟩ | ⟨c_80, h⟩
    · refine TL'.step (.on rfl rfl rfl c_80) (OpT.move rfl (dl rfl rfl) rfl ?_)
      refine sp rfl (OpT.pickT rfl (dl rfl rfl) rfl c_80 rfl ?_)
      refine asg rfl rfl rfl rfl rfl ?_
      refine asg rfl rfl rfl rfl rfl ?_
      refine TL'.nil (thenS_normal ?_)
      refine T.ret ?_
      exact Fin.doneK (.cons _ _ _ _ (.tmp 2 _ rfl) (.cons _ _ _ _ (.tmp 3 _ rfl) .nil)) (.cons 0 rfl (.cons 0 rfl (.nil _))) (by cases h; exact ⟨gl [γ_77 0], rfl, rfl⟩)
    · refine TL'.passU (.off _ _ _ _ rfl rfl rfl c_80) (dl rfl rfl) ?_
      refine sp rfl (OpT.pickF rfl (dl rfl rfl) rfl c_80 rfl ?_)
      refine asg rfl rfl rfl rfl rfl ?_
      refine asg rfl rfl rfl rfl rfl ?_
      refine TL'.nil (thenS_normal ?_)
      refine T.ret ?_
      exact Fin.doneK (.cons _ _ _ _ (.tmp 2 _ rfl) (.cons _ _ _ _ (.tmp 3 _ rfl) .nil)) (.cons 0 rfl (.cons 0 rfl (.nil _))) (by cases h; exact ⟨gl [γ_77 0], rfl, rfl⟩)

abbrev syntax_reader_escape_q (bx0 : Nat) (r : Int × Bool × syntax_parser) : Exit → St → Prop := retS Try.prog Try.f56 (fun y t => ∃ γ : Nat → Value, y = (.tup [.int .u8 r.1, .bool r.2.1]) ∧ t = [.box bx0 47 [.d (.str r.2.2.reader.s), .d (.int .i64 r.2.2.reader.at_), .d (.int .i64 r.2.2.reader.where_), .d (.int .i64 r.2.2.reader.e), .d (.ex (γ 0)), .d (.int .i64 r.2.2.deep)], .arrA (γ 0) 36 9 (r.2.2.nodes.map c_api_Node)])

theorem syntax_reader_escape_T (K : Nat) {x0 : syntax_parser} {bx0 : Nat} {wx0c1 : Value} {r : Int × Bool × syntax_parser} (h : syntax_reader_escape K x0 = some r) : CallG Try.prog 56 [.ptr bx0 (0 + 0)] [.box bx0 47 [.d (.str x0.reader.s), .d (.int .i64 x0.reader.at_), .d (.int .i64 x0.reader.where_), .d (.int .i64 x0.reader.e), .d (.ex wx0c1), .d (.int .i64 x0.deep)], .arrA wx0c1 36 9 (x0.nodes.map c_api_Node)] (fun γ => (.tup [.int .u8 r.1, .bool r.2.1])) (fun γ => [.box bx0 47 [.d (.str r.2.2.reader.s), .d (.int .i64 r.2.2.reader.at_), .d (.int .i64 r.2.2.reader.where_), .d (.int .i64 r.2.2.reader.e), .d (.ex (γ 0)), .d (.int .i64 r.2.2.deep)], .arrA (γ 0) 36 9 (r.2.2.nodes.map c_api_Node)]) := by
  refine CallT.intro Try.func56 rfl (Nat.le_of_ble_eq_true rfl) ?_
  show T Try.prog 37 (Code.at [] (codeOf Try.f56)) ⟨paramSlots 0 [.ptr bx0 (0 + 0)], [.box bx0 47 [.d (.str x0.reader.s), .d (.int .i64 x0.reader.at_), .d (.int .i64 x0.reader.where_), .d (.int .i64 x0.reader.e), .d (.ex wx0c1), .d (.int .i64 x0.deep)], .arrA wx0c1 36 9 (x0.nodes.map c_api_Node)]⟩ (syntax_reader_escape_q bx0 r)
  unfold syntax_reader_escape at h
  refine T.seq ?_
  refine T.regionL ?_
  refine asg rfl rfl rfl rfl rfl ?_
  refine asg rfl rfl rfl rfl rfl ?_
  refine TL'.nil (thenS_normal ?_)
  refine T.seq ?_
  refine T.regionL ?_
  refine mv rfl rfl rfl rfl rfl ?_
  obtain ⟨v_57, e_58, h⟩ := bind_some h
  refine sp rfl (OpT.callG (is := [0, 1]) (ph := []) rfl (dl rfl rfl) Try.func44 rfl rfl (Args.cons rfl Args.nil) (syntax_reader_next_T K (bx0 := bx0) (wx0c1 := wx0c1) e_58) (.cons rfl rfl (.cons rfl rfl (.nil))) (fun _ => rfl) (fun γ_59 => ?_))
  refine nm (.c (.c (.n))) ?_
  refine asg rfl rfl rfl rfl rfl ?_
  refine TL'.nil (thenS_normal ?_)
  refine T.block ?_
  refine T.seq ?_
  refine T.regionL ?_
  refine mv rfl rfl rfl rfl rfl ?_
  refine sp rfl (OpT.nilCheck rfl (dl rfl rfl) rfl rfl ?_)
  refine sp rfl (OpT.fieldPtr rfl (dl rfl rfl) Try.underlying45 rfl i24 (by decide) rfl ?_)
  refine sp rfl (OpT.loadBox (i := 0) rfl (dl rfl rfl) Try.underlying24 rfl rfl rfl rfl ?_)
  refine sp rfl (OpT.int2 rfl rfl (dl rfl rfl) rfl rfl ?_)
  refine asg rfl rfl rfl rfl rfl ?_
  refine TL'.nil (thenS_normal ?_)
  rcases bif_some h with ⟨c_60, h⟩ | ⟨c_60, h⟩
  · refine T.condT rfl c_60 ?_
    refine T.seq ?_
    refine T.regionL ?_
    refine asg rfl rfl rfl rfl rfl ?_
    refine asg rfl rfl rfl rfl rfl ?_
    refine TL'.nil (thenS_normal ?_)
    refine T.ret (inBlock_ret ?_)
    exact Fin.doneK (.cons _ _ _ _ (.tmp 2 _ rfl) (.cons _ _ _ _ (.tmp 3 _ rfl) .nil)) (.cons 0 rfl (.cons 0 rfl (.nil _))) (by cases h; exact ⟨gl [γ_59 0], rfl, rfl⟩)
  · refine T.condF rfl c_60 ?_
    refine T.seq ?_
    refine T.regionL ?_
    refine mv rfl rfl rfl rfl rfl ?_
    refine sp rfl (OpT.int2 rfl rfl (dl rfl rfl) rfl rfl ?_)
    refine asg rfl rfl rfl rfl rfl ?_
    refine TL'.nil (thenS_normal ?_)
    rcases bif_some h with ⟨c_61, h⟩ | ⟨c_61, h⟩
    · refine T.condT rfl c_61 ?_
      refine T.seq ?_
      refine T.regionL ?_
      refine asg rfl rfl rfl rfl rfl ?_
      refine asg rfl rfl rfl rfl rfl ?_
      refine TL'.nil (thenS_normal ?_)
      refine T.ret (inBlock_ret ?_)
      exact Fin.doneK (.cons _ _ _ _ (.tmp 2 _ rfl) (.cons _ _ _ _ (.tmp 3 _ rfl) .nil)) (.cons 0 rfl (.cons 0 rfl (.nil _))) (by cases h; exact ⟨gl [γ_59 0], rfl, rfl⟩)
    · refine T.condF rfl c_61 ?_
      refine T.seq ?_
      refine T.regionL ?_
      refine mv rfl rfl rfl rfl rfl ?_
      refine sp rfl (OpT.int2 rfl rfl (dl rfl rfl) rfl rfl ?_)
      refine asg rfl rfl rfl rfl rfl ?_
      refine TL'.nil (thenS_normal ?_)
      rcases bif_some h with ⟨c_62, h⟩ | ⟨c_62, h⟩
      · refine T.condT rfl c_62 ?_
        refine T.seq ?_
        refine T.regionL ?_
        refine asg rfl rfl rfl rfl rfl ?_
        refine asg rfl rfl rfl rfl rfl ?_
        refine TL'.nil (thenS_normal ?_)
        refine T.ret (inBlock_ret ?_)
        exact Fin.doneK (.cons _ _ _ _ (.tmp 2 _ rfl) (.cons _ _ _ _ (.tmp 3 _ rfl) .nil)) (.cons 0 rfl (.cons 0 rfl (.nil _))) (by cases h; exact ⟨gl [γ_59 0], rfl, rfl⟩)
      · refine T.condF rfl c_62 ?_
        refine T.seq ?_
        refine T.regionL ?_
        refine mv rfl rfl rfl rfl rfl ?_
        refine sp rfl (OpT.int2 rfl rfl (dl rfl rfl) rfl rfl ?_)
        refine asg rfl rfl rfl rfl rfl ?_
        refine TL'.nil (thenS_normal ?_)
        rcases bif_some h with ⟨c_63, h⟩ | ⟨c_63, h⟩
        · refine T.condT rfl c_63 ?_
          refine T.seq ?_
          refine T.regionL ?_
          refine asg rfl rfl rfl rfl rfl ?_
          refine asg rfl rfl rfl rfl rfl ?_
          refine TL'.nil (thenS_normal ?_)
          refine T.ret (inBlock_ret ?_)
          exact Fin.doneK (.cons _ _ _ _ (.tmp 2 _ rfl) (.cons _ _ _ _ (.tmp 3 _ rfl) .nil)) (.cons 0 rfl (.cons 0 rfl (.nil _))) (by cases h; exact ⟨gl [γ_59 0], rfl, rfl⟩)
        · refine T.condF rfl c_63 ?_
          refine T.seq ?_
          refine T.regionL ?_
          refine mv rfl rfl rfl rfl rfl ?_
          refine sp rfl (OpT.int2 rfl rfl (dl rfl rfl) rfl rfl ?_)
          refine asg rfl rfl rfl rfl rfl ?_
          refine TL'.nil (thenS_normal ?_)
          rcases bif_some h with ⟨c_64, h⟩ | ⟨c_64, h⟩
          · refine T.condT rfl c_64 ?_
            refine T.seq ?_
            refine T.regionL ?_
            refine mv rfl rfl rfl rfl rfl ?_
            obtain ⟨v_65, e_66, h⟩ := bind_some h
            refine sp rfl (OpT.callG (is := [0, 1]) (ph := []) rfl (dl rfl rfl) Try.func59 rfl rfl (Args.cons rfl Args.nil) (syntax_reader_pair_T K (bx0 := bx0) (wx0c1 := (γ_59 0)) e_66) (.cons rfl rfl (.cons rfl rfl (.nil))) (fun _ => rfl) (fun γ_67 => ?_))
            refine nm (.c (.c (.n))) ?_
            refine sp rfl (OpT.extract rfl (dl rfl rfl) rfl rfl ?_)
            refine sp rfl (OpT.extract rfl (dl rfl rfl) rfl rfl ?_)
            refine asg rfl rfl rfl rfl rfl ?_
            refine asg rfl rfl rfl rfl rfl ?_
            refine TL'.nil (thenS_normal ?_)
            refine T.ret (inBlock_ret ?_)
            exact Fin.doneK (.cons _ _ _ _ (.tmp 2 _ rfl) (.cons _ _ _ _ (.tmp 3 _ rfl) .nil)) (.cons 0 rfl (.cons 0 rfl (.nil _))) (by cases h; exact ⟨gl [γ_67 0], rfl, rfl⟩)
          · refine T.condF rfl c_64 ?_
            refine T.seq ?_
            refine T.regionL ?_
            refine mv rfl rfl rfl rfl rfl ?_
            refine mv rfl rfl rfl rfl rfl ?_
            refine sp rfl (OpT.int2 rfl rfl (dl rfl rfl) rfl rfl ?_)
            refine mv rfl rfl rfl rfl rfl ?_
            rcases bif_some h with ⟨c_68, h⟩ | ⟨c_68, h⟩
            · refine TL'.passU (.off _ _ _ _ rfl rfl rfl c_68) (dl rfl rfl) ?_
              refine TL'.passU (.off _ _ _ _ rfl rfl rfl c_68) (dl rfl rfl) ?_
              refine TL'.passU (.off _ _ _ _ rfl rfl rfl c_68) (dl rfl rfl) ?_
              refine sp rfl (OpT.pickT rfl (dl rfl rfl) rfl c_68 rfl ?_)
              refine asg rfl rfl rfl rfl rfl ?_
              refine asg rfl rfl rfl rfl rfl ?_
              refine TL'.nil (thenS_normal ?_)
              refine T.ret (inBlock_ret ?_)
              exact Fin.doneK (.cons _ _ _ _ (.tmp 2 _ rfl) (.cons _ _ _ _ (.tmp 3 _ rfl) .nil)) (.cons 0 rfl (.cons 0 rfl (.nil _))) (by cases h; exact ⟨gl [γ_59 0], rfl, rfl⟩)
            · refine TL'.step (.on rfl rfl rfl c_68) (OpT.move rfl (dl rfl rfl) rfl ?_)
              obtain ⟨v_69, e_70, h⟩ := bind_some h
              refine TL'.step (.on rfl rfl rfl c_68) (OpT.callPA rfl (dl rfl rfl) Try.func49 rfl rfl (Args.cons rfl (Args.cons rfl Args.nil)) (CallR.nil (strings_IndexByte_T K e_70)) ?_)
              refine TL'.step (.on rfl rfl rfl c_68) (OpT.int2 rfl rfl (dl rfl rfl) rfl rfl ?_)
              refine sp rfl (OpT.pickF rfl (dl rfl rfl) rfl c_68 rfl ?_)
              refine asg rfl rfl rfl rfl rfl ?_
              refine asg rfl rfl rfl rfl rfl ?_
              refine TL'.nil (thenS_normal ?_)
              refine T.ret (inBlock_ret ?_)
              exact Fin.doneK (.cons _ _ _ _ (.tmp 2 _ rfl) (.cons _ _ _ _ (.tmp 3 _ rfl) .nil)) (.cons 0 rfl (.cons 0 rfl (.nil _))) (by cases h; exact ⟨gl [γ_59 0], rfl, rfl⟩)

abbrev syntax_reader_one_q (bx0 : Nat) (r : Int × syntax_parser) : Exit → St → Prop := retS Try.prog Try.f50 (fun y t => ∃ γ : Nat → Value, y = (.int .u8 r.1) ∧ t = [.box bx0 47 [.d (.str r.2.reader.s), .d (.int .i64 r.2.reader.at_), .d (.int .i64 r.2.reader.where_), .d (.int .i64 r.2.reader.e), .d (.ex (γ 0)), .d (.int .i64 r.2.deep)], .arrA (γ 0) 36 9 (r.2.nodes.map c_api_Node)])

theorem syntax_reader_one_T (K : Nat) {x0 : syntax_parser} {bx0 : Nat} {wx0c1 : Value} {r : Int × syntax_parser} (h : syntax_reader_one K x0 = some r) : CallG Try.prog 50 [.ptr bx0 (0 + 0)] [.box bx0 47 [.d (.str x0.reader.s), .d (.int .i64 x0.reader.at_), .d (.int .i64 x0.reader.where_), .d (.int .i64 x0.reader.e), .d (.ex wx0c1), .d (.int .i64 x0.deep)], .arrA wx0c1 36 9 (x0.nodes.map c_api_Node)] (fun γ => (.int .u8 r.1)) (fun γ => [.box bx0 47 [.d (.str r.2.reader.s), .d (.int .i64 r.2.reader.at_), .d (.int .i64 r.2.reader.where_), .d (.int .i64 r.2.reader.e), .d (.ex (γ 0)), .d (.int .i64 r.2.deep)], .arrA (γ 0) 36 9 (r.2.nodes.map c_api_Node)]) := by
  refine CallT.intro Try.func50 rfl (Nat.le_of_ble_eq_true rfl) ?_
  show T Try.prog 27 (Code.at [] (codeOf Try.f50)) ⟨paramSlots 0 [.ptr bx0 (0 + 0)], [.box bx0 47 [.d (.str x0.reader.s), .d (.int .i64 x0.reader.at_), .d (.int .i64 x0.reader.where_), .d (.int .i64 x0.reader.e), .d (.ex wx0c1), .d (.int .i64 x0.deep)], .arrA wx0c1 36 9 (x0.nodes.map c_api_Node)]⟩ (syntax_reader_one_q bx0 r)
  unfold syntax_reader_one at h
  refine T.seq ?_
  refine T.regionL ?_
  refine asg rfl rfl rfl rfl rfl ?_
  refine TL'.nil (thenS_normal ?_)
  refine T.seq ?_
  refine T.regionL ?_
  refine mv rfl rfl rfl rfl rfl ?_
  refine sp rfl (OpT.nilCheck rfl (dl rfl rfl) rfl rfl ?_)
  refine sp rfl (OpT.fieldPtr rfl (dl rfl rfl) Try.underlying45 rfl i3 (by decide) rfl ?_)
  refine sp rfl (OpT.loadBox (i := 0) rfl (dl rfl rfl) Try.underlying3 rfl rfl rfl rfl ?_)
  refine asg rfl rfl rfl rfl rfl ?_
  refine TL'.nil (thenS_normal ?_)
  refine T.seq ?_
  refine T.regionL ?_
  refine mv rfl rfl rfl rfl rfl ?_
  obtain ⟨v_45, e_46, h⟩ := bind_some h
  refine sp rfl (OpT.callG (is := [0, 1]) (ph := []) rfl (dl rfl rfl) Try.func44 rfl rfl (Args.cons rfl Args.nil) (syntax_reader_next_T K (bx0 := bx0) (wx0c1 := wx0c1) e_46) (.cons rfl rfl (.cons rfl rfl (.nil))) (fun _ => rfl) (fun γ_47 => ?_))
  refine nm (.c (.c (.n))) ?_
  refine asg rfl rfl rfl rfl rfl ?_
  refine TL'.nil (thenS_normal ?_)
  refine T.seq ?_
  refine T.seq ?_
  refine T.regionL ?_
  refine mv rfl rfl rfl rfl rfl ?_
  refine sp rfl (OpT.int2 rfl rfl (dl rfl rfl) rfl rfl ?_)
  refine TL'.nil (thenS_normal ?_)
  rcases bif_some h with ⟨c_48, h⟩ | ⟨c_48, h⟩
  · refine T.condT rfl c_48 ?_
    refine T.seq ?_
    refine T.regionL ?_
    refine mv rfl rfl rfl rfl rfl ?_
    refine asg rfl rfl rfl rfl rfl ?_
    refine TL'.nil (thenS_normal ?_)
    refine T.ret (thenS_ret ?_)
    exact Fin.doneK (.cons _ _ _ _ (.tmp 2 _ rfl) .nil) (.cons 0 rfl (.cons 0 rfl (.nil _))) (by cases h; exact ⟨gl [γ_47 0], rfl, rfl⟩)
  · refine T.condF rfl c_48 ?_
    refine T.skip (thenS_normal ?_)
    refine T.seq ?_
    refine T.regionL ?_
    refine mv rfl rfl rfl rfl rfl ?_
    obtain ⟨v_49, e_50, h⟩ := bind_some h
    refine sp rfl (OpT.callG (is := [0, 1]) (ph := []) rfl (dl rfl rfl) Try.func56 rfl rfl (Args.cons rfl Args.nil) (syntax_reader_escape_T K (bx0 := bx0) (wx0c1 := (γ_47 0)) e_50) (.cons rfl rfl (.cons rfl rfl (.nil))) (fun _ => rfl) (fun γ_51 => ?_))
    refine nm (.c (.c (.n))) ?_
    refine mv rfl rfl rfl rfl rfl ?_
    refine sp rfl (OpT.extract rfl (dl rfl rfl) rfl rfl ?_)
    refine sp rfl (OpT.extract rfl (dl rfl rfl) rfl rfl ?_)
    refine asg rfl rfl rfl rfl rfl ?_
    refine asg rfl rfl rfl rfl rfl ?_
    refine TL'.nil (thenS_normal ?_)
    refine T.seq ?_
    refine T.seq ?_
    refine T.regionL ?_
    refine mv rfl rfl rfl rfl rfl ?_
    refine sp rfl (OpT.not rfl (dl rfl rfl) rfl ?_)
    refine TL'.nil (thenS_normal ?_)
    rcases bif_some h with ⟨c_52, h⟩ | ⟨c_52, h⟩
    · refine T.condT rfl c_52 ?_
      refine T.regionL ?_
      refine mv rfl rfl rfl rfl rfl ?_
      refine mv rfl rfl rfl rfl rfl ?_
      obtain ⟨v_53, e_54, h⟩ := bind_some h
      refine sp rfl (OpT.callG (is := [0, 1]) (ph := []) rfl (dl rfl rfl) Try.func20 rfl rfl (Args.cons rfl (Args.cons rfl (Args.cons rfl Args.nil))) (syntax_reader_fail_T K (bx0 := bx0) (wx0c1 := (γ_51 0)) e_54) (.cons rfl rfl (.cons rfl rfl (.nil))) (fun _ => rfl) (fun γ_55 => ?_))
      refine nm (.c (.c (.n))) ?_
      refine TL'.nil (thenS_normal ?_)
      refine T.seq ?_
      refine T.regionL ?_
      refine mv rfl rfl rfl rfl rfl ?_
      refine asg rfl rfl rfl rfl rfl ?_
      refine TL'.nil (thenS_normal ?_)
      refine T.ret ?_
      exact Fin.doneK (.cons _ _ _ _ (.tmp 2 _ rfl) .nil) (.cons 0 rfl (.cons 0 rfl (.nil _))) (by cases h; exact ⟨gl [γ_55 0], rfl, rfl⟩)
    · refine T.condF rfl c_52 ?_
      refine T.skip (thenS_normal ?_)
      refine T.seq ?_
      refine T.regionL ?_
      refine mv rfl rfl rfl rfl rfl ?_
      refine asg rfl rfl rfl rfl rfl ?_
      refine TL'.nil (thenS_normal ?_)
      refine T.ret ?_
      exact Fin.doneK (.cons _ _ _ _ (.tmp 2 _ rfl) .nil) (.cons 0 rfl (.cons 0 rfl (.nil _))) (by cases h; exact ⟨gl [γ_51 0], rfl, rfl⟩)

abbrev bset_Of_q (r : Arr4) : Exit → St → Prop := retS Try.prog Try.f46 (fun y t => y = (.agg (Arr4.dc .u64 r)) ∧ t = [])

abbrev bset_Of_qs111 (r : Arr4) : Exit → St → Prop := thenS (fun s' => T Try.prog 23 (Code.at [1, 1, 1] (codeOf Try.f46)) s' ((bset_Of_q r))) ((bset_Of_q r))

abbrev bset_Of_qb0x111 (r : Arr4) : Exit → St → Prop := inBlockS 0 ((bset_Of_qs111 r))

theorem bset_Of_l0_T {r : Arr4} (K : Nat) : ∀ (k : Nat), ∀ (x0 : List Int) (x7_0_3 : Int) (x8_0_4 : Int) (y2_0_0 : Arr4) (y3_0_1 : Arr4) (flx0 : Bool) (b2_0 : Nat) (b3_0 : Nat), bset_Of_l0 K k x0 x7_0_3 x8_0_4 y2_0_0 y3_0_1 = some r → TL Try.prog 23 (Code.at [1, 1, 0, 1, 0, 0] (codeOf Try.f46)) ⟨[(2, .ptr b2_0 0), (3, .ptr b3_0 0), (6, .sl flx0 1 (x0.map (cI .u8))), (7, .int .i64 x7_0_3), (8, .int .i64 x8_0_4)], [.box b2_0 33 (Arr4.oc .u64 y2_0_0), .box b3_0 33 (Arr4.oc .u64 y3_0_1)]⟩ (bset_Of_qb0x111 r) := by
  intro k
  induction k with
  | zero =>
    intro x0 x7_0_3 x8_0_4 y2_0_0 y3_0_1 flx0 b2_0 b3_0 h
    cases (show (none : Option Arr4) = some r from h)
  | succ k ih =>
    intro x0 x7_0_3 x8_0_4 y2_0_0 y3_0_1 flx0 b2_0 b3_0 h
    rw [bset_Of_l0] at h
    refine TL.round ?_
    refine T.seq ?_
    refine T.regionL ?_
    refine sp rfl (OpT.int2 rfl rfl (dl rfl rfl) rfl rfl ?_)
    refine TL'.nil (thenS_normal ?_)
    refine T.seq ?_
    rcases bif_some h with ⟨c_59, h⟩ | ⟨c_59, h⟩
    · refine T.condT rfl c_59 ?_
      refine T.skip (thenS_normal ?_)
      refine T.seq ?_
      refine T.block ?_
      refine T.seq ?_
      refine T.regionL ?_
      obtain ⟨v_60, e_61, h⟩ := bind_some h
      refine sp rfl (OpT.indexSlM (xs := x0) (f := (cI .u8)) (v := v_60) rfl (dl rfl rfl) Try.underlying38 i5 rfl rfl e_61 ?_)
      refine sp rfl (OpT.loadRef rfl (dl rfl rfl) Try.underlying5 rfl rfl rfl ?_)
      refine asg rfl rfl rfl rfl rfl ?_
      refine TL'.nil (thenS_normal ?_)
      refine T.regionL ?_
      refine mv rfl rfl rfl rfl rfl ?_
      refine sp rfl (OpT.quo rfl (dl rfl rfl) rfl rfl (by decide) ?_)
      obtain ⟨g_62, h⟩ := ck_some h
      refine sp rfl (OpT.indexPtr rfl (dl rfl rfl) Try.underlying33 i31 rfl rfl g_62.1 g_62.2 ?_)
      refine sp rfl (OpT.loadBox (i := 1) rfl (dl rfl rfl) Try.underlying31 rfl rfl rfl (Arr4.oc_get (k := .u64) (a := y3_0_1) (pre := []) (post := []) g_62.1 g_62.2) ?_)
      refine mv rfl rfl rfl rfl rfl ?_
      refine sp rfl (OpT.rem rfl (dl rfl rfl) rfl rfl (by decide) ?_)
      obtain ⟨g_63, h⟩ := ck_some h
      refine sp rfl (OpT.shl rfl (dl rfl rfl) rfl rfl g_63 ?_)
      refine sp rfl (OpT.int2 rfl rfl (dl rfl rfl) rfl rfl ?_)
      refine sp rfl (OpT.indexPtr rfl (dl rfl rfl) Try.underlying33 i31 rfl rfl g_62.1 g_62.2 ?_)
      refine sp rfl (OpT.storeTo (i := 1) (cells' := (Arr4.oc .u64 (Arr4.set y3_0_1 (IntKind.u8.wrap (Int.tdiv v_60 (64 : Int))) (bits .or .u64 (Arr4.get y3_0_1 (IntKind.u8.wrap (Int.tdiv v_60 (64 : Int)))) (IntKind.u64.wrap ((1 : Int) * 2 ^ min (Int.toNat (Int.tmod v_60 (64 : Int))) IntKind.u64.bits)))))) rfl rfl i31 rfl rfl rfl (Arr4.oc_lt (k := .u64) (a := y3_0_1) (pre := []) (post := []) g_62.1 g_62.2) (Arr4.oc_set (k := .u64) (a := y3_0_1) (pre := []) (post := []) g_62.1 g_62.2) ?_)
      refine TL'.nil (inBlock_normal (thenS_normal ?_))
      refine T.regionL ?_
      refine sp rfl (OpT.int2 rfl rfl (dl rfl rfl) rfl rfl ?_)
      refine mv rfl rfl rfl rfl rfl ?_
      refine TL'.nil (thenS_normal ?_)
      refine TL.by_turn ?_ (ih x0 x7_0_3 (IntKind.i64.wrap (x8_0_4 + (1 : Int))) y2_0_0 (Arr4.set y3_0_1 (IntKind.u8.wrap (Int.tdiv v_60 (64 : Int))) (bits .or .u64 (Arr4.get y3_0_1 (IntKind.u8.wrap (Int.tdiv v_60 (64 : Int)))) (IntKind.u64.wrap ((1 : Int) * 2 ^ min (Int.toNat (Int.tmod v_60 (64 : Int))) IntKind.u64.bits)))) flx0 b2_0 b3_0 h)
      exact Turn.rp (.cons rfl (.cons rfl (.cons rfl (.cons rfl (.cons rfl (.nil _)))))) (.c .z (.c .z (.n _)))
    · refine T.condF rfl c_59 ?_
      refine T.exit (thenS_exit (thenS_exit (inBlock_exit (thenS_normal ?_))))
      refine T.seq ?_
      refine T.regionL ?_
      refine sp rfl (OpT.loadBoxAgg (i := 1) (l := (Arr4.dc .u64 y3_0_1)) rfl (dl rfl rfl) Try.underlying33 rfl i33 rfl rfl rfl rfl ?_)
      refine sp rfl (OpT.storeAggTo (i := 0) (cells' := (Arr4.oc .u64 y3_0_1)) rfl rfl i33 rfl rfl rfl rfl (Nat.le_of_ble_eq_true rfl) rfl ?_)
      refine TL'.nil (thenS_normal ?_)
      refine T.ret ?_
      exact Fin.done (.cons _ _ _ _ (.cellAgg 2 33 _ 0 0 33 _ (Arr4.dc .u64 y3_0_1) _ _ 4 _ rfl rfl rfl rfl Try.underlying33 rfl i33) .nil) (by cases h; exact ⟨rfl, rfl⟩)

theorem bset_Of_T (K : Nat) {x0 : List Int} {flx0 : Bool} {r : Arr4} (h : bset_Of K x0 = some r) : CallR Try.prog 46 [.sl flx0 1 (x0.map (cI .u8))] [] (.agg (Arr4.dc .u64 r)) := by
  refine CallT.intro Try.func46 rfl (Nat.le_of_ble_eq_true rfl) ?_
  show T Try.prog 23 (Code.at [] (codeOf Try.f46)) ⟨paramSlots 0 [.sl flx0 1 (x0.map (cI .u8))], []⟩ (bset_Of_q r)
  unfold bset_Of at h
  refine T.seq ?_
  refine T.regionL ?_
  refine sp rfl (OpT.alloc' rfl (dl rfl rfl) i33 rfl (fun b_57 => ?_))
  refine TL'.nil (thenS_normal ?_)
  refine T.seq ?_
  refine T.regionL ?_
  refine sp rfl (OpT.alloc' rfl (dl rfl rfl) i33 rfl (fun b_58 => ?_))
  refine TL'.nil (thenS_normal ?_)
  refine T.seq ?_
  refine T.seq ?_
  refine T.regionL ?_
  refine mv rfl rfl rfl rfl rfl ?_
  refine sp rfl (OpT.lenSlM (xs := x0) (f := (cI .u8)) rfl (dl rfl rfl) Try.underlying38 rfl ?_)
  refine mv rfl rfl rfl rfl rfl ?_
  refine TL'.nil (thenS_normal ?_)
  refine T.block ?_
  refine T.loop ?_
  refine TL.by_turn ?_ (bset_Of_l0_T K K x0 (x0.length : Int) (0 : Int) (Arr4.mk 0 0 0 0) (Arr4.mk 0 0 0 0) flx0 b_57 b_58 h)
  exact Turn.rp (.cons rfl (.cons rfl (.cons rfl (.cons rfl (.cons rfl (.nil _)))))) (.c (.s .z) (.c .z (.n _)))

abbrev syntax_parser_put_q (bx0 : Nat) (r : Int × syntax_parser) : Exit → St → Prop := retS Try.prog Try.f34 (fun y t => ∃ γ : Nat → Value, y = (.int .i64 r.1) ∧ t = [.box bx0 47 [.d (.str r.2.reader.s), .d (.int .i64 r.2.reader.at_), .d (.int .i64 r.2.reader.where_), .d (.int .i64 r.2.reader.e), .d (.ex (γ 0)), .d (.int .i64 r.2.deep)], .arrA (γ 0) 36 9 (r.2.nodes.map c_api_Node)])

theorem syntax_parser_put_T (K : Nat) {x0 : syntax_parser} {x1 : api_Node} {bx0 : Nat} {wx0c1 : Value} {r : Int × syntax_parser} (h : syntax_parser_put K x0 x1 = some r) : CallG Try.prog 34 [.ptr bx0 0, .agg [.int .u8 x1.Op, .int .u64 x1.S.a0, .int .u64 x1.S.a1, .int .u64 x1.S.a2, .int .u64 x1.S.a3, .sl false 1 (x1.L.map (cI .i64)), .int .i64 x1.Lo, .int .i64 x1.Hi, .str x1.Name]] [.box bx0 47 [.d (.str x0.reader.s), .d (.int .i64 x0.reader.at_), .d (.int .i64 x0.reader.where_), .d (.int .i64 x0.reader.e), .d (.ex wx0c1), .d (.int .i64 x0.deep)], .arrA wx0c1 36 9 (x0.nodes.map c_api_Node)] (fun γ => (.int .i64 r.1)) (fun γ => [.box bx0 47 [.d (.str r.2.reader.s), .d (.int .i64 r.2.reader.at_), .d (.int .i64 r.2.reader.where_), .d (.int .i64 r.2.reader.e), .d (.ex (γ 0)), .d (.int .i64 r.2.deep)], .arrA (γ 0) 36 9 (r.2.nodes.map c_api_Node)]) := by
  refine CallT.intro Try.func34 rfl (Nat.le_of_ble_eq_true rfl) ?_
  show T Try.prog 21 (Code.at [] (codeOf Try.f34)) ⟨paramSlots 0 [.ptr bx0 0, .agg [.int .u8 x1.Op, .int .u64 x1.S.a0, .int .u64 x1.S.a1, .int .u64 x1.S.a2, .int .u64 x1.S.a3, .sl false 1 (x1.L.map (cI .i64)), .int .i64 x1.Lo, .int .i64 x1.Hi, .str x1.Name]], [.box bx0 47 [.d (.str x0.reader.s), .d (.int .i64 x0.reader.at_), .d (.int .i64 x0.reader.where_), .d (.int .i64 x0.reader.e), .d (.ex wx0c1), .d (.int .i64 x0.deep)], .arrA wx0c1 36 9 (x0.nodes.map c_api_Node)]⟩ (syntax_parser_put_q bx0 r)
  unfold syntax_parser_put at h
  refine T.seq ?_
  refine T.regionL ?_
  refine sp rfl (OpT.boxAgg rfl (dl rfl rfl) rfl (fun b_16 => ?_))
  refine asg rfl rfl rfl rfl rfl ?_
  refine TL'.nil (thenS_normal ?_)
  refine T.seq ?_
  refine T.by_turn Turn.keepPlace ?_
  refine DGG.start ?_
  refine DGG.step (c := fun γ_17 => ⟨some 5, .ptr bx0 0, [(0, .ptr bx0 0)], [], []⟩) [] (fun _ _ _ => rfl) (fun γ_17 t hm => One.step rfl (.free rfl) (OpT.move rfl (dl rfl rfl) hm.s0 ⟨(fun _ => undef, 0), rfl⟩)) (fun γ_17 => Ct.met_of rfl rfl) ?_
  refine DGG.step (c := fun γ_17 => ⟨some 6, .ptr bx0 0, [(0, .ptr bx0 0)], [], []⟩) [] (fun _ _ _ => rfl) (fun γ_17 t hm => One.step rfl (.free rfl) (OpT.move rfl (dl rfl rfl) hm.s0 ⟨(fun _ => undef, 0), rfl⟩)) (fun γ_17 => Ct.met_of rfl rfl) ?_
  refine DGG.step (c := fun γ_17 => ⟨some 7, .ptr bx0 0, [(6, .ptr bx0 0)], [], []⟩) [] (fun _ _ _ => rfl) (fun γ_17 t hm => One.step rfl (.free rfl) (OpT.nilCheck rfl (dl rfl rfl) hm.s0 rfl ⟨(fun _ => undef, 0), rfl⟩)) (fun γ_17 => Ct.met_of rfl rfl) ?_
  refine DGG.step (c := fun γ_17 => ⟨some 8, .ptr bx0 (0 + 4), [(7, .ptr bx0 0)], [], []⟩) [] (fun _ _ _ => rfl) (fun γ_17 t hm => One.step rfl (.free rfl) (OpT.fieldPtr rfl (dl rfl rfl) Try.underlying47 rfl i23 (by decide) hm.s0 ⟨(fun _ => undef, 0), rfl⟩)) (fun γ_17 => Ct.met_of rfl rfl) ?_
  refine DGG.step (c := fun γ_17 => ⟨some 9, .c (.ex wx0c1), [(8, .ptr bx0 (0 + 4))], [(2, .box bx0 47 [.d (.str x0.reader.s), .d (.int .i64 x0.reader.at_), .d (.int .i64 x0.reader.where_), .d (.int .i64 x0.reader.e), .d (.ex wx0c1), .d (.int .i64 x0.deep)])], []⟩) [] (fun _ _ _ => rfl) (fun γ_17 t hm => One.step rfl (.free rfl) (OpT.loadBox (i := 2) rfl (dl rfl rfl) Try.underlying23 rfl hm.s0 hm.o0 rfl ⟨(fun _ => undef, 0), rfl⟩)) (fun γ_17 => Ct.met_of rfl rfl) ?_
  refine DGG.step (c := fun γ_17 => ⟨some 10, .agg [.int .u8 x1.Op, .int .u64 x1.S.a0, .int .u64 x1.S.a1, .int .u64 x1.S.a2, .int .u64 x1.S.a3, .sl false 1 (x1.L.map (cI .i64)), .int .i64 x1.Lo, .int .i64 x1.Hi, .str x1.Name], [(3, .ptr b_16 0)], [(1, .box b_16 36 [.d (.int .u8 x1.Op), .d (.int .u64 x1.S.a0), .d (.int .u64 x1.S.a1), .d (.int .u64 x1.S.a2), .d (.int .u64 x1.S.a3), .d (.sl false 1 (x1.L.map (cI .i64))), .d (.int .i64 x1.Lo), .d (.int .i64 x1.Hi), .d (.str x1.Name)])], []⟩) [] (fun _ _ _ => rfl) (fun γ_17 t hm => One.step rfl (.free rfl) (OpT.loadBoxAgg (i := 1) (l := [.int .u8 x1.Op, .int .u64 x1.S.a0, .int .u64 x1.S.a1, .int .u64 x1.S.a2, .int .u64 x1.S.a3, .sl false 1 (x1.L.map (cI .i64)), .int .i64 x1.Lo, .int .i64 x1.Hi, .str x1.Name]) rfl (dl rfl rfl) Try.underlying36 rfl i36 hm.s0 hm.o0 rfl rfl ⟨(fun _ => undef, 0), rfl⟩)) (fun γ_17 => Ct.met_of rfl rfl) ?_
  refine DGG.step (c := fun γ_17 => ⟨some 11, .sl true 9 ([x1].map c_api_Node), [(10, .agg [.int .u8 x1.Op, .int .u64 x1.S.a0, .int .u64 x1.S.a1, .int .u64 x1.S.a2, .int .u64 x1.S.a3, .sl false 1 (x1.L.map (cI .i64)), .int .i64 x1.Lo, .int .i64 x1.Hi, .str x1.Name])], [], []⟩) [] (fun _ _ _ => rfl) (fun γ_17 t hm => One.step rfl (.free rfl) (OpT.buildSlice (elems := ([x1] : List api_Node).map c_api_Node) rfl (dl rfl rfl) Try.underlying23 i36 (by decide) rfl (all1 rfl) (parts_cons hm.s0 rfl parts_nil) rfl rfl (lenAll rfl) (by decide) ⟨(fun _ => undef, 0), rfl⟩)) (fun γ_17 => Ct.met_of rfl rfl) ?_
  obtain ⟨g_20, h⟩ := ck_some h
  refine DGG.step (c := fun γ_17 => ⟨some 12, .c (.ex ((γ_17 7).1 0)), [(11, .sl true 9 ([x1].map c_api_Node)), (9, .c (.ex wx0c1))], [(3, .arrA wx0c1 36 9 (x0.nodes.map c_api_Node))], [(3, .arrA ((γ_17 7).1 0) 36 9 ((x0.nodes ++ [x1]).map c_api_Node))]⟩) [7] (fun γ_17 γ' h => by simp only [h 7 (by decide)]) (fun γ_17 t hm => One.step rfl (.free rfl) (OpT.appendAM (i := 3) (xs := x0.nodes) (ys := [x1]) (f := c_api_Node) rfl (dl rfl rfl) Try.underlying23 i36 rfl hm.s1 hm.o0 hm.s0 g_20 (fun w => ⟨(fun _ => w, 0), rfl⟩))) (fun γ_17 => Ct.met_of rfl rfl) ?_
  refine DGG.step (c := fun γ_17 => ⟨some 13, .ptr bx0 0, [(5, .ptr bx0 0)], [], []⟩) [] (fun _ _ _ => rfl) (fun γ_17 t hm => One.step rfl (.free rfl) (OpT.nilCheck rfl (dl rfl rfl) hm.s0 rfl ⟨(fun _ => undef, 0), rfl⟩)) (fun γ_17 => Ct.met_of rfl rfl) ?_
  refine DGG.step (c := fun γ_17 => ⟨some 14, .ptr bx0 (0 + 4), [(13, .ptr bx0 0)], [], []⟩) [] (fun _ _ _ => rfl) (fun γ_17 t hm => One.step rfl (.free rfl) (OpT.fieldPtr rfl (dl rfl rfl) Try.underlying47 rfl i23 (by decide) hm.s0 ⟨(fun _ => undef, 0), rfl⟩)) (fun γ_17 => Ct.met_of rfl rfl) ?_
  refine DGG.step (c := fun γ_17 => ⟨none, .any, [(14, .ptr bx0 (0 + 4)), (12, .c (.ex ((γ_17 7).1 0)))], [(2, .box bx0 47 [.d (.str x0.reader.s), .d (.int .i64 x0.reader.at_), .d (.int .i64 x0.reader.where_), .d (.int .i64 x0.reader.e), .d (.ex wx0c1), .d (.int .i64 x0.deep)])], [(2, .box bx0 47 [.d (.str x0.reader.s), .d (.int .i64 x0.reader.at_), .d (.int .i64 x0.reader.where_), .d (.int .i64 x0.reader.e), .d (.ex ((γ_17 7).1 0)), .d (.int .i64 x0.deep)])]⟩) [7] (fun γ_17 γ' h => by simp only [h 7 (by decide)]) (fun γ_17 t hm => One.step rfl (.free rfl) (OpT.storeTo (i := 2) (cells' := [.d (.str x0.reader.s), .d (.int .i64 x0.reader.at_), .d (.int .i64 x0.reader.where_), .d (.int .i64 x0.reader.e), .d (.ex ((γ_17 7).1 0)), .d (.int .i64 x0.deep)]) rfl rfl i23 hm.s0 hm.s1 hm.o0 (Nat.le_of_ble_eq_true rfl) rfl ⟨(fun _ => undef, 0), rfl⟩)) (fun γ_17 => Ct.met_of rfl rfl) ?_
  refine DGG.fin (s1 := fun γ_17 => ⟨[(0, .ptr bx0 0)], [.ro 0 [], .box b_16 36 [.d (.int .u8 x1.Op), .d (.int .u64 x1.S.a0), .d (.int .u64 x1.S.a1), .d (.int .u64 x1.S.a2), .d (.int .u64 x1.S.a3), .d (.sl false 1 (x1.L.map (cI .i64))), .d (.int .i64 x1.Lo), .d (.int .i64 x1.Hi), .d (.str x1.Name)], .box bx0 47 [.d (.str x0.reader.s), .d (.int .i64 x0.reader.at_), .d (.int .i64 x0.reader.where_), .d (.int .i64 x0.reader.e), .d (.ex ((γ_17 7).1 0)), .d (.int .i64 x0.deep)], .arrA ((γ_17 7).1 0) 36 9 ((x0.nodes ++ [x1]).map c_api_Node)]⟩) (ms := [0, 0, 2, 6, 14, 0, 32, 126, 255, 511, 1023]) TryMixed rfl (by kernel_rfl) (by kernel_rfl) (by kernel_rfl) (fun γ_17 => by kernel_rfl) (fun γ_17 => .cons rfl (.nil _)) (fun _ => rfl) (fun γ_17 u hu => (thenS_normal (T.by_turn hu ?_)))
  refine T.seq ?_
  refine T.regionL ?_
  refine mv rfl rfl rfl rfl rfl ?_
  refine sp rfl (OpT.nilCheck rfl (dl rfl rfl) rfl rfl ?_)
  refine sp rfl (OpT.fieldPtr rfl (dl rfl rfl) Try.underlying47 rfl i23 (by decide) rfl ?_)
  refine sp rfl (OpT.thenTurn (OpT.loadBox (i := 2) rfl (dl rfl rfl) Try.underlying23 rfl rfl rfl rfl rfl) (Turn.viewP 18 3 rfl) ?_)
  refine sp rfl (OpT.lenSlM (xs := (x0.nodes ++ [x1])) (f := c_api_Node) rfl (dl rfl rfl) Try.underlying23 rfl ?_)
  refine sp rfl (OpT.int2 rfl rfl (dl rfl rfl) rfl rfl ?_)
  refine asg rfl rfl rfl rfl rfl ?_
  refine TL'.nil (thenS_normal ?_)
  refine T.ret ?_
  exact Fin.doneK (.cons _ _ _ _ (.tmp 4 _ rfl) .nil) (.cons 2 rfl (.cons 2 rfl (.nil _))) (by cases h; exact ⟨gl [(γ_17 7).1 0], rfl, rfl⟩)

abbrev syntax_parser_bytes_q (bx0 : Nat) (r : Int × syntax_parser) : Exit → St → Prop := retS Try.prog Try.f42 (fun y t => ∃ γ : Nat → Value, y = (.int .i64 r.1) ∧ t = [.box bx0 47 [.d (.str r.2.reader.s), .d (.int .i64 r.2.reader.at_), .d (.int .i64 r.2.reader.where_), .d (.int .i64 r.2.reader.e), .d (.ex (γ 0)), .d (.int .i64 r.2.deep)], .arrA (γ 0) 36 9 (r.2.nodes.map c_api_Node)])

theorem syntax_parser_bytes_T (K : Nat) {x0 : syntax_parser} {x1 : Arr4} {bx0 : Nat} {wx0c1 : Value} {r : Int × syntax_parser} (h : syntax_parser_bytes K x0 x1 = some r) : CallG Try.prog 42 [.ptr bx0 0, .agg (Arr4.dc .u64 x1)] [.box bx0 47 [.d (.str x0.reader.s), .d (.int .i64 x0.reader.at_), .d (.int .i64 x0.reader.where_), .d (.int .i64 x0.reader.e), .d (.ex wx0c1), .d (.int .i64 x0.deep)], .arrA wx0c1 36 9 (x0.nodes.map c_api_Node)] (fun γ => (.int .i64 r.1)) (fun γ => [.box bx0 47 [.d (.str r.2.reader.s), .d (.int .i64 r.2.reader.at_), .d (.int .i64 r.2.reader.where_), .d (.int .i64 r.2.reader.e), .d (.ex (γ 0)), .d (.int .i64 r.2.deep)], .arrA (γ 0) 36 9 (r.2.nodes.map c_api_Node)]) := by
  refine CallT.intro Try.func42 rfl (Nat.le_of_ble_eq_true rfl) ?_
  show T Try.prog 9 (Code.at [] (codeOf Try.f42)) ⟨paramSlots 0 [.ptr bx0 0, .agg (Arr4.dc .u64 x1)], [.box bx0 47 [.d (.str x0.reader.s), .d (.int .i64 x0.reader.at_), .d (.int .i64 x0.reader.where_), .d (.int .i64 x0.reader.e), .d (.ex wx0c1), .d (.int .i64 x0.deep)], .arrA wx0c1 36 9 (x0.nodes.map c_api_Node)]⟩ (syntax_parser_bytes_q bx0 r)
  unfold syntax_parser_bytes at h
  refine T.seq ?_
  refine T.regionL ?_
  refine sp rfl (OpT.boxAgg rfl (dl rfl rfl) rfl (fun b_13 => ?_))
  refine asg rfl rfl rfl rfl rfl ?_
  refine TL'.nil (thenS_normal ?_)
  refine T.seq ?_
  refine T.regionL ?_
  refine mv rfl rfl rfl rfl rfl ?_
  refine sp rfl (OpT.loadBoxAgg (i := 0) (l := (Arr4.dc .u64 x1)) rfl (dl rfl rfl) Try.underlying33 rfl i33 rfl rfl rfl rfl ?_)
  refine sp rfl (OpT.thenTurn (OpT.build (l := [.int .u8 (2 : Int), .int .u64 x1.a0, .int .u64 x1.a1, .int .u64 x1.a2, .int .u64 x1.a3, .ex (.slice none 0 0), .int .i64 (0 : Int), .int .i64 (0 : Int), .str (⟨#[]⟩ : ByteArray)]) rfl (dl rfl rfl) (built_struct (pl := [(0, 1), (1, 4), (5, 1), (6, 1), (7, 1), (8, 1)]) Try.underlying36 i36 rfl) (all1 rfl) rfl rfl rfl) (Turn.weakSlotP 7 (l := [.int .u8 (2 : Int), .int .u64 x1.a0, .int .u64 x1.a1, .int .u64 x1.a2, .int .u64 x1.a3, .ex (.slice none 0 0), .int .i64 (0 : Int), .int .i64 (0 : Int), .str (⟨#[]⟩ : ByteArray)]) (l' := [.int .u8 (2 : Int), .int .u64 x1.a0, .int .u64 x1.a1, .int .u64 x1.a2, .int .u64 x1.a3, .sl false 1 (([] : List Int).map (cI .i64)), .int .i64 (0 : Int), .int .i64 (0 : Int), .str (⟨#[]⟩ : ByteArray)]) (.cons (.same _) (.cons (.same _) (.cons (.same _) (.cons (.same _) (.cons (.same _) (.cons (.nil _ _) (.cons (.same _) (.cons (.same _) (.cons (.same _) (.refl _))))))))))) ?_)
  obtain ⟨v_14, e_15, h⟩ := bind_some h
  refine sp rfl (OpT.callG (is := [1, 2]) (ph := []) rfl (dl rfl rfl) Try.func34 rfl rfl (Args.cons rfl (Args.cons rfl Args.nil)) (syntax_parser_put_T K (bx0 := bx0) (wx0c1 := wx0c1) e_15) (.cons rfl rfl (.cons rfl rfl (.nil))) (fun _ => rfl) (fun γ_16 => ?_))
  refine nm (.c (.c (.c (.n)))) ?_
  refine asg rfl rfl rfl rfl rfl ?_
  refine TL'.nil (thenS_normal ?_)
  refine T.ret ?_
  exact Fin.doneK (.cons _ _ _ _ (.tmp 4 _ rfl) .nil) (.cons 1 rfl (.cons 1 rfl (.nil _))) (by cases h; exact ⟨gl [γ_16 0], rfl, rfl⟩)

abbrev syntax_letter_q (r : Bool) : Exit → St → Prop := retS Try.prog Try.f22 (fun y t => y = (.bool r) ∧ t = [])

theorem syntax_letter_T (K : Nat) {x0 : Int} {r : Bool} (h : syntax_letter K x0 = some r) : CallR Try.prog 22 [.int .u8 x0] [] (.bool r) := by
  refine CallT.intro Try.func22 rfl (Nat.le_of_ble_eq_true rfl) ?_
  show T Try.prog 21 (Code.at [] (codeOf Try.f22)) ⟨paramSlots 0 [.int .u8 x0], []⟩ (syntax_letter_q r)
  unfold syntax_letter at h
  refine T.seq ?_
  refine T.regionL ?_
  refine asg rfl rfl rfl rfl rfl ?_
  refine TL'.nil (thenS_normal ?_)
  refine T.seq ?_
  refine T.regionL ?_
  refine mv rfl rfl rfl rfl rfl ?_
  refine sp rfl (OpT.int2 rfl rfl (dl rfl rfl) rfl rfl ?_)
  refine mv rfl rfl rfl rfl rfl ?_
  rcases bif_some h with ⟨c_25, h⟩ | ⟨c_25, h⟩
  · refine TL'.step (.on rfl rfl rfl c_25) (OpT.move rfl (dl rfl rfl) rfl ?_)
    refine TL'.step (.on rfl rfl rfl c_25) (OpT.int2 rfl rfl (dl rfl rfl) rfl rfl ?_)
    refine sp rfl (OpT.pickT rfl (dl rfl rfl) rfl c_25 rfl ?_)
    refine mv rfl rfl rfl rfl rfl ?_
    rcases bif_some h with ⟨c_26, h⟩ | ⟨c_26, h⟩
    · refine TL'.passU (.off _ _ _ _ rfl rfl rfl c_26) (dl rfl rfl) ?_
      refine TL'.passU (.off _ _ _ _ rfl rfl rfl c_26) (dl rfl rfl) ?_
      refine TL'.passU (.off _ _ _ _ rfl rfl rfl c_26) (dl rfl rfl) ?_
      refine TL'.passU (.gone _ _ _ rfl rfl rfl) (dl rfl rfl) ?_
      refine TL'.passU (.gone _ _ _ rfl rfl rfl) (dl rfl rfl) ?_
      refine TL'.passU (.off _ _ _ _ rfl rfl rfl c_26) (dl rfl rfl) ?_
      refine sp rfl (OpT.pickT rfl (dl rfl rfl) rfl c_26 rfl ?_)
      refine mv rfl rfl rfl rfl rfl ?_
      refine TL'.passU (.off _ _ _ _ rfl rfl rfl rfl) (dl rfl rfl) ?_
      refine TL'.passU (.off _ _ _ _ rfl rfl rfl rfl) (dl rfl rfl) ?_
      refine sp rfl (OpT.pickT rfl (dl rfl rfl) rfl rfl rfl ?_)
      refine asg rfl rfl rfl rfl rfl ?_
      refine TL'.nil (thenS_normal ?_)
      refine T.ret ?_
      exact Fin.done (.cons _ _ _ _ (.tmp 2 _ rfl) .nil) (by cases h; exact ⟨rfl, rfl⟩)
    · refine TL'.step (.on rfl rfl rfl c_26) (OpT.move rfl (dl rfl rfl) rfl ?_)
      refine TL'.step (.on rfl rfl rfl c_26) (OpT.int2 rfl rfl (dl rfl rfl) rfl rfl ?_)
      refine TL'.step (.on rfl rfl rfl c_26) (OpT.move rfl (dl rfl rfl) rfl ?_)
      rcases bif_some h with ⟨c_27, h⟩ | ⟨c_27, h⟩
      · refine TL'.step (.on rfl rfl rfl c_27) (OpT.move rfl (dl rfl rfl) rfl ?_)
        refine TL'.step (.on rfl rfl rfl c_27) (OpT.int2 rfl rfl (dl rfl rfl) rfl rfl ?_)
        refine TL'.step (.on rfl rfl rfl c_26) (OpT.pickT rfl (dl rfl rfl) rfl c_27 rfl ?_)
        refine sp rfl (OpT.pickF rfl (dl rfl rfl) rfl c_26 rfl ?_)
        refine mv rfl rfl rfl rfl rfl ?_
        rcases bif_some h with ⟨c_28, h⟩ | ⟨c_28, h⟩
        · refine TL'.passU (.off _ _ _ _ rfl rfl rfl c_28) (dl rfl rfl) ?_
          refine TL'.passU (.off _ _ _ _ rfl rfl rfl c_28) (dl rfl rfl) ?_
          refine sp rfl (OpT.pickT rfl (dl rfl rfl) rfl c_28 rfl ?_)
          refine asg rfl rfl rfl rfl rfl ?_
          refine TL'.nil (thenS_normal ?_)
          refine T.ret ?_
          exact Fin.done (.cons _ _ _ _ (.tmp 2 _ rfl) .nil) (by cases h; exact ⟨rfl, rfl⟩)
        · refine TL'.step (.on rfl rfl rfl c_28) (OpT.move rfl (dl rfl rfl) rfl ?_)
          refine TL'.step (.on rfl rfl rfl c_28) (OpT.int2 rfl rfl (dl rfl rfl) rfl rfl ?_)
          refine sp rfl (OpT.pickF rfl (dl rfl rfl) rfl c_28 rfl ?_)
          refine asg rfl rfl rfl rfl rfl ?_
          refine TL'.nil (thenS_normal ?_)
          refine T.ret ?_
          exact Fin.done (.cons _ _ _ _ (.tmp 2 _ rfl) .nil) (by cases h; exact ⟨rfl, rfl⟩)
      · refine TL'.passU (.off _ _ _ _ rfl rfl rfl c_27) (dl rfl rfl) ?_
        refine TL'.passU (.off _ _ _ _ rfl rfl rfl c_27) (dl rfl rfl) ?_
        refine TL'.step (.on rfl rfl rfl c_26) (OpT.pickF rfl (dl rfl rfl) rfl c_27 rfl ?_)
        refine sp rfl (OpT.pickF rfl (dl rfl rfl) rfl c_26 rfl ?_)
        refine mv rfl rfl rfl rfl rfl ?_
        refine TL'.step (.on rfl rfl rfl rfl) (OpT.move rfl (dl rfl rfl) rfl ?_)
        refine TL'.step (.on rfl rfl rfl rfl) (OpT.int2 rfl rfl (dl rfl rfl) rfl rfl ?_)
        refine sp rfl (OpT.pickF rfl (dl rfl rfl) rfl rfl rfl ?_)
        refine asg rfl rfl rfl rfl rfl ?_
        refine TL'.nil (thenS_normal ?_)
        refine T.ret ?_
        exact Fin.done (.cons _ _ _ _ (.tmp 2 _ rfl) .nil) (by cases h; exact ⟨rfl, rfl⟩)
  · refine TL'.passU (.off _ _ _ _ rfl rfl rfl c_25) (dl rfl rfl) ?_
    refine TL'.passU (.off _ _ _ _ rfl rfl rfl c_25) (dl rfl rfl) ?_
    refine sp rfl (OpT.pickF rfl (dl rfl rfl) rfl c_25 rfl ?_)
    refine mv rfl rfl rfl rfl rfl ?_
    refine TL'.step (.on rfl rfl rfl rfl) (OpT.move rfl (dl rfl rfl) rfl ?_)
    refine TL'.step (.on rfl rfl rfl rfl) (OpT.int2 rfl rfl (dl rfl rfl) rfl rfl ?_)
    refine TL'.step (.on rfl rfl rfl rfl) (OpT.move rfl (dl rfl rfl) rfl ?_)
    rcases bif_some h with ⟨c_29, h⟩ | ⟨c_29, h⟩
    · refine TL'.step (.on rfl rfl rfl c_29) (OpT.move rfl (dl rfl rfl) rfl ?_)
      refine TL'.step (.on rfl rfl rfl c_29) (OpT.int2 rfl rfl (dl rfl rfl) rfl rfl ?_)
      refine TL'.step (.on rfl rfl rfl rfl) (OpT.pickT rfl (dl rfl rfl) rfl c_29 rfl ?_)
      refine sp rfl (OpT.pickF rfl (dl rfl rfl) rfl rfl rfl ?_)
      refine mv rfl rfl rfl rfl rfl ?_
      rcases bif_some h with ⟨c_30, h⟩ | ⟨c_30, h⟩
      · refine TL'.passU (.off _ _ _ _ rfl rfl rfl c_30) (dl rfl rfl) ?_
        refine TL'.passU (.off _ _ _ _ rfl rfl rfl c_30) (dl rfl rfl) ?_
        refine sp rfl (OpT.pickT rfl (dl rfl rfl) rfl c_30 rfl ?_)
        refine asg rfl rfl rfl rfl rfl ?_
        refine TL'.nil (thenS_normal ?_)
        refine T.ret ?_
        exact Fin.done (.cons _ _ _ _ (.tmp 2 _ rfl) .nil) (by cases h; exact ⟨rfl, rfl⟩)
      · refine TL'.step (.on rfl rfl rfl c_30) (OpT.move rfl (dl rfl rfl) rfl ?_)
        refine TL'.step (.on rfl rfl rfl c_30) (OpT.int2 rfl rfl (dl rfl rfl) rfl rfl ?_)
        refine sp rfl (OpT.pickF rfl (dl rfl rfl) rfl c_30 rfl ?_)
        refine asg rfl rfl rfl rfl rfl ?_
        refine TL'.nil (thenS_normal ?_)
        refine T.ret ?_
        exact Fin.done (.cons _ _ _ _ (.tmp 2 _ rfl) .nil) (by cases h; exact ⟨rfl, rfl⟩)
    · refine TL'.passU (.off _ _ _ _ rfl rfl rfl c_29) (dl rfl rfl) ?_
      refine TL'.passU (.off _ _ _ _ rfl rfl rfl c_29) (dl rfl rfl) ?_
      refine TL'.step (.on rfl rfl rfl rfl) (OpT.pickF rfl (dl rfl rfl) rfl c_29 rfl ?_)
      refine sp rfl (OpT.pickF rfl (dl rfl rfl) rfl rfl rfl ?_)
      refine mv rfl rfl rfl rfl rfl ?_
      refine TL'.step (.on rfl rfl rfl rfl) (OpT.move rfl (dl rfl rfl) rfl ?_)
      refine TL'.step (.on rfl rfl rfl rfl) (OpT.int2 rfl rfl (dl rfl rfl) rfl rfl ?_)
      refine sp rfl (OpT.pickF rfl (dl rfl rfl) rfl rfl rfl ?_)
      refine asg rfl rfl rfl rfl rfl ?_
      refine TL'.nil (thenS_normal ?_)
      refine T.ret ?_
      exact Fin.done (.cons _ _ _ _ (.tmp 2 _ rfl) .nil) (by cases h; exact ⟨rfl, rfl⟩)

abbrev syntax_Name_q (r : Bool) : Exit → St → Prop := retS Try.prog Try.f14 (fun y t => y = (.bool r) ∧ t = [])

abbrev syntax_Name_qs11 (r : Bool) : Exit → St → Prop := thenS (fun s' => T Try.prog 34 (Code.at [1, 1] (codeOf Try.f14)) s' ((syntax_Name_q r))) ((syntax_Name_q r))

abbrev syntax_Name_qb0x11 (r : Bool) : Exit → St → Prop := inBlockS 0 ((syntax_Name_qs11 r))

abbrev syntax_Name_ql1010 (r : Bool) : Exit → St → Prop := thenS (fun s' => TL Try.prog 34 (Code.at [1, 0, 1, 0, 0] (codeOf Try.f14)) s' ((syntax_Name_qb0x11 r))) ((syntax_Name_qb0x11 r))

abbrev syntax_Name_qs10100111 (r : Bool) : Exit → St → Prop := thenS (fun s' => T Try.prog 34 (Code.at [1, 0, 1, 0, 0, 1, 1, 1] (codeOf Try.f14)) s' ((syntax_Name_ql1010 r))) ((syntax_Name_ql1010 r))

abbrev syntax_Name_qb1_0x10100111 (r : Bool) : Exit → St → Prop := inBlockS 1 ((syntax_Name_qs10100111 r))

theorem syntax_Name_j1_T {r : Bool} (K : Nat) (h : syntax_Name_j1 K = some r) : T Try.prog 34 (Code.at [1, 0, 1, 0, 0, 1, 1, 0, 0, 1, 1, 0] (codeOf Try.f14)) ⟨[], []⟩ (syntax_Name_qb1_0x10100111 r) := by
  unfold syntax_Name_j1 at h
  refine T.seq ?_
  refine T.regionL ?_
  refine asg rfl rfl rfl rfl rfl ?_
  refine TL'.nil (thenS_normal ?_)
  refine T.ret (inBlock_ret (thenS_ret (thenS_ret (inBlock_ret (thenS_ret ?_)))))
  exact Fin.done (.cons _ _ _ _ (.tmp 2 _ rfl) .nil) (by cases h; exact ⟨rfl, rfl⟩)

theorem syntax_Name_l0_T {r : Bool} (K : Nat) : ∀ (k : Nat), ∀ (x0 : ByteArray) (x5_0_1 : Int) (x6_0_2 : Int), syntax_Name_l0 K k x0 x5_0_1 x6_0_2 = some r → TL Try.prog 34 (Code.at [1, 0, 1, 0, 0] (codeOf Try.f14)) ⟨[(0, .str x0), (5, .int .i64 x5_0_1), (6, .int .i64 x6_0_2)], []⟩ (syntax_Name_qb0x11 r) := by
  intro k
  induction k with
  | zero =>
    intro x0 x5_0_1 x6_0_2 h
    cases (show (none : Option Bool) = some r from h)
  | succ k ih =>
    intro x0 x5_0_1 x6_0_2 h
    rw [syntax_Name_l0] at h
    refine TL.round ?_
    refine T.seq ?_
    refine T.regionL ?_
    refine sp rfl (OpT.int2 rfl rfl (dl rfl rfl) rfl rfl ?_)
    refine TL'.nil (thenS_normal ?_)
    refine T.seq ?_
    rcases bif_some h with ⟨c_75, h⟩ | ⟨c_75, h⟩
    · refine T.condT rfl c_75 ?_
      refine T.skip (thenS_normal ?_)
      refine T.seq ?_
      refine T.block ?_
      refine T.seq ?_
      refine T.regionL ?_
      refine mv rfl rfl rfl rfl rfl ?_
      refine asg rfl rfl rfl rfl rfl ?_
      refine TL'.nil (thenS_normal ?_)
      refine T.seq ?_
      refine T.regionL ?_
      refine mv rfl rfl rfl rfl rfl ?_
      refine mv rfl rfl rfl rfl rfl ?_
      obtain ⟨g_76, h⟩ := ck_some h
      refine sp rfl (OpT.indexStr rfl (dl rfl rfl) Try.underlying9 rfl rfl g_76.1 g_76.2 ?_)
      obtain ⟨v_77, e_78, h⟩ := bind_some h
      refine sp rfl (OpT.callPA rfl (dl rfl rfl) Try.func22 rfl rfl (Args.cons rfl Args.nil) (CallR.nil (syntax_letter_T K e_78)) ?_)
      refine sp rfl (OpT.not rfl (dl rfl rfl) rfl ?_)
      refine mv rfl rfl rfl rfl rfl ?_
      rcases bif_some h with ⟨c_79, h⟩ | ⟨c_79, h⟩
      · refine TL'.step (.on rfl rfl rfl c_79) (OpT.move rfl (dl rfl rfl) rfl ?_)
        refine TL'.step (.on rfl rfl rfl c_79) (OpT.int2 rfl rfl (dl rfl rfl) rfl rfl ?_)
        refine TL'.step (.on rfl rfl rfl c_79) (OpT.move rfl (dl rfl rfl) rfl ?_)
        rcases bif_some h with ⟨c_80, h⟩ | ⟨c_80, h⟩
        · refine TL'.passU (.off _ _ _ _ rfl rfl rfl c_80) (dl rfl rfl) ?_
          refine TL'.passU (.off _ _ _ _ rfl rfl rfl c_80) (dl rfl rfl) ?_
          refine TL'.passU (.off _ _ _ _ rfl rfl rfl c_80) (dl rfl rfl) ?_
          refine TL'.passU (.off _ _ _ _ rfl rfl rfl c_80) (dl rfl rfl) ?_
          refine TL'.passU (.off _ _ _ _ rfl rfl rfl c_80) (dl rfl rfl) ?_
          refine TL'.step (.on rfl rfl rfl c_79) (OpT.pickT rfl (dl rfl rfl) rfl c_80 rfl ?_)
          refine sp rfl (OpT.pickT rfl (dl rfl rfl) rfl c_79 rfl ?_)
          refine TL'.nil (thenS_normal ?_)
          refine T.condT rfl rfl ?_
          refine T.by_turn ?_ (syntax_Name_j1_T K h)
          exact Turn.rp (.nil _) (.n _)
        · refine TL'.step (.on rfl rfl rfl c_80) (OpT.move rfl (dl rfl rfl) rfl ?_)
          refine TL'.step (.on rfl rfl rfl c_80) (OpT.move rfl (dl rfl rfl) rfl ?_)
          refine TL'.step (.on rfl rfl rfl c_80) (OpT.indexStr rfl (dl rfl rfl) Try.underlying9 rfl rfl g_76.1 g_76.2 ?_)
          obtain ⟨v_81, e_82, h⟩ := bind_some h
          refine TL'.step (.on rfl rfl rfl c_80) (OpT.callPA rfl (dl rfl rfl) Try.func23 rfl rfl (Args.cons rfl Args.nil) (CallR.nil (syntax_digit_T K e_82)) ?_)
          refine TL'.step (.on rfl rfl rfl c_80) (OpT.not rfl (dl rfl rfl) rfl ?_)
          refine TL'.step (.on rfl rfl rfl c_79) (OpT.pickF rfl (dl rfl rfl) rfl c_80 rfl ?_)
          refine sp rfl (OpT.pickT rfl (dl rfl rfl) rfl c_79 rfl ?_)
          refine TL'.nil (thenS_normal ?_)
          rcases bif_some h with ⟨c_83, h⟩ | ⟨c_83, h⟩
          · refine T.condT rfl c_83 ?_
            refine T.by_turn ?_ (syntax_Name_j1_T K h)
            exact Turn.rp (.nil _) (.n _)
          · refine T.condF rfl c_83 ?_
            refine T.skip (inBlock_normal (thenS_normal ?_))
            refine T.regionL ?_
            refine sp rfl (OpT.int2 rfl rfl (dl rfl rfl) rfl rfl ?_)
            refine mv rfl rfl rfl rfl rfl ?_
            refine TL'.nil (thenS_normal ?_)
            refine TL.by_turn ?_ (ih x0 x5_0_1 (IntKind.i64.wrap (x6_0_2 + (1 : Int))) h)
            exact Turn.rp (.cons rfl (.cons rfl (.cons rfl (.nil _)))) (.n _)
      · refine TL'.passU (.off _ _ _ _ rfl rfl rfl c_79) (dl rfl rfl) ?_
        refine TL'.passU (.off _ _ _ _ rfl rfl rfl c_79) (dl rfl rfl) ?_
        refine TL'.passU (.off _ _ _ _ rfl rfl rfl c_79) (dl rfl rfl) ?_
        refine TL'.passU (.gone _ _ _ rfl rfl rfl) (dl rfl rfl) ?_
        refine TL'.passU (.gone _ _ _ rfl rfl rfl) (dl rfl rfl) ?_
        refine TL'.passU (.gone _ _ _ rfl rfl rfl) (dl rfl rfl) ?_
        refine TL'.passU (.gone _ _ _ rfl rfl rfl) (dl rfl rfl) ?_
        refine TL'.passU (.gone _ _ _ rfl rfl rfl) (dl rfl rfl) ?_
        refine TL'.passU (.off _ _ _ _ rfl rfl rfl c_79) (dl rfl rfl) ?_
        refine sp rfl (OpT.pickF rfl (dl rfl rfl) rfl c_79 rfl ?_)
        refine TL'.nil (thenS_normal ?_)
        refine T.condF rfl rfl ?_
        refine T.skip (inBlock_normal (thenS_normal ?_))
        refine T.regionL ?_
        refine sp rfl (OpT.int2 rfl rfl (dl rfl rfl) rfl rfl ?_)
        refine mv rfl rfl rfl rfl rfl ?_
        refine TL'.nil (thenS_normal ?_)
        refine TL.by_turn ?_ (ih x0 x5_0_1 (IntKind.i64.wrap (x6_0_2 + (1 : Int))) h)
        exact Turn.rp (.cons rfl (.cons rfl (.cons rfl (.nil _)))) (.n _)
    · refine T.condF rfl c_75 ?_
      refine T.exit (thenS_exit (thenS_exit (inBlock_exit (thenS_normal ?_))))
      refine T.seq ?_
      refine T.regionL ?_
      refine mv rfl rfl rfl rfl rfl ?_
      refine sp rfl (OpT.lenStr rfl (dl rfl rfl) Try.underlying9 rfl ?_)
      refine sp rfl (OpT.int2 rfl rfl (dl rfl rfl) rfl rfl ?_)
      refine mv rfl rfl rfl rfl rfl ?_
      rcases bif_some h with ⟨c_84, h⟩ | ⟨c_84, h⟩
      · refine TL'.step (.on rfl rfl rfl c_84) (OpT.move rfl (dl rfl rfl) rfl ?_)
        refine TL'.step (.on rfl rfl rfl c_84) (OpT.lenStr rfl (dl rfl rfl) Try.underlying9 rfl ?_)
        refine TL'.step (.on rfl rfl rfl c_84) (OpT.int2 rfl rfl (dl rfl rfl) rfl rfl ?_)
        refine sp rfl (OpT.pickT rfl (dl rfl rfl) rfl c_84 rfl ?_)
        refine asg rfl rfl rfl rfl rfl ?_
        refine TL'.nil (thenS_normal ?_)
        refine T.ret ?_
        exact Fin.done (.cons _ _ _ _ (.tmp 2 _ rfl) .nil) (by cases h; exact ⟨rfl, rfl⟩)
      · refine TL'.passU (.off _ _ _ _ rfl rfl rfl c_84) (dl rfl rfl) ?_
        refine TL'.passU (.off _ _ _ _ rfl rfl rfl c_84) (dl rfl rfl) ?_
        refine TL'.passU (.off _ _ _ _ rfl rfl rfl c_84) (dl rfl rfl) ?_
        refine sp rfl (OpT.pickF rfl (dl rfl rfl) rfl c_84 rfl ?_)
        refine asg rfl rfl rfl rfl rfl ?_
        refine TL'.nil (thenS_normal ?_)
        refine T.ret ?_
        exact Fin.done (.cons _ _ _ _ (.tmp 2 _ rfl) .nil) (by cases h; exact ⟨rfl, rfl⟩)

theorem syntax_Name_T (K : Nat) {x0 : ByteArray} {r : Bool} (h : syntax_Name K x0 = some r) : CallR Try.prog 14 [.str x0] [] (.bool r) := by
  refine CallT.intro Try.func14 rfl (Nat.le_of_ble_eq_true rfl) ?_
  show T Try.prog 34 (Code.at [] (codeOf Try.f14)) ⟨paramSlots 0 [.str x0], []⟩ (syntax_Name_q r)
  unfold syntax_Name at h
  refine T.seq ?_
  refine T.regionL ?_
  refine asg rfl rfl rfl rfl rfl ?_
  refine TL'.nil (thenS_normal ?_)
  refine T.seq ?_
  refine T.seq ?_
  refine T.regionL ?_
  refine mv rfl rfl rfl rfl rfl ?_
  refine sp rfl (OpT.lenStr rfl (dl rfl rfl) Try.underlying9 rfl ?_)
  refine mv rfl rfl rfl rfl rfl ?_
  refine TL'.nil (thenS_normal ?_)
  refine T.block ?_
  refine T.loop ?_
  refine TL.by_turn ?_ (syntax_Name_l0_T K K x0 (x0.size : Int) (0 : Int) h)
  exact Turn.rp (.cons rfl (.cons rfl (.cons rfl (.nil _)))) (.n _)

abbrev syntax_reader_name_q (bx0 : Nat) (r : ByteArray × syntax_parser) : Exit → St → Prop := retS Try.prog Try.f48 (fun y t => ∃ γ : Nat → Value, y = (.str r.1) ∧ t = [.box bx0 47 [.d (.str r.2.reader.s), .d (.int .i64 r.2.reader.at_), .d (.int .i64 r.2.reader.where_), .d (.int .i64 r.2.reader.e), .d (.ex (γ 0)), .d (.int .i64 r.2.deep)], .arrA (γ 0) 36 9 (r.2.nodes.map c_api_Node)])

theorem syntax_reader_name_j0_T {r : ByteArray × syntax_parser} (K : Nat) (bx0 : Nat) (x4_0_6 : Int) (x5_0_7 : ByteArray) (y0_0_0 : ByteArray) (y0_0_1 : Int) (y0_0_2 : Int) (y0_0_3 : Int) (y0_0_5 : Int) (y0_0_4 : List api_Node) (w0_0 : Value) (h : syntax_reader_name_j0 K x4_0_6 x5_0_7 y0_0_0 y0_0_1 y0_0_2 y0_0_3 y0_0_5 y0_0_4 = some r) : T Try.prog 53 (Code.at [1, 1, 1, 1, 1, 1, 1] (codeOf Try.f48)) ⟨[(0, .ptr bx0 (0 + 0)), (4, .int .i64 x4_0_6), (5, .str x5_0_7)], [.box bx0 47 [.d (.str y0_0_0), .d (.int .i64 y0_0_1), .d (.int .i64 y0_0_2), .d (.int .i64 y0_0_3), .d (.ex w0_0), .d (.int .i64 y0_0_5)], .arrA w0_0 36 9 (y0_0_4.map c_api_Node)]⟩ (syntax_reader_name_q bx0 r) := by
  unfold syntax_reader_name_j0 at h
  refine T.seq ?_
  refine T.regionL ?_
  refine mv rfl rfl rfl rfl rfl ?_
  refine sp rfl (OpT.nilCheck rfl (dl rfl rfl) rfl rfl ?_)
  refine sp rfl (OpT.fieldPtr rfl (dl rfl rfl) Try.underlying45 rfl i3 (by decide) rfl ?_)
  refine sp rfl (OpT.loadBox (i := 0) rfl (dl rfl rfl) Try.underlying3 rfl rfl rfl rfl ?_)
  refine mv rfl rfl rfl rfl rfl ?_
  refine sp rfl (OpT.int2 rfl rfl (dl rfl rfl) rfl rfl ?_)
  refine sp rfl (OpT.int2 rfl rfl (dl rfl rfl) rfl rfl ?_)
  refine sp rfl (OpT.nilCheck rfl (dl rfl rfl) rfl rfl ?_)
  refine sp rfl (OpT.fieldPtr rfl (dl rfl rfl) Try.underlying45 rfl i3 (by decide) rfl ?_)
  refine sp rfl (OpT.storeTo (i := 0) (cells' := [.d (.str y0_0_0), .d (.int .i64 (IntKind.i64.wrap (y0_0_1 + (IntKind.i64.wrap (x4_0_6 + (1 : Int)))))), .d (.int .i64 y0_0_2), .d (.int .i64 y0_0_3), .d (.ex w0_0), .d (.int .i64 y0_0_5)]) rfl rfl i3 rfl rfl rfl (Nat.le_of_ble_eq_true rfl) rfl ?_)
  refine TL'.nil (thenS_normal ?_)
  refine T.seq ?_
  refine T.regionL ?_
  refine mv rfl rfl rfl rfl rfl ?_
  refine asg rfl rfl rfl rfl rfl ?_
  refine TL'.nil (thenS_normal ?_)
  refine T.ret ?_
  exact Fin.doneK (.cons _ _ _ _ (.tmp 2 _ rfl) .nil) (.cons 0 rfl (.cons 0 rfl (.nil _))) (by cases h; exact ⟨gl [w0_0], rfl, rfl⟩)

theorem syntax_reader_name_T (K : Nat) {x0 : syntax_parser} {bx0 : Nat} {wx0c1 : Value} {r : ByteArray × syntax_parser} (h : syntax_reader_name K x0 = some r) : CallG Try.prog 48 [.ptr bx0 (0 + 0)] [.box bx0 47 [.d (.str x0.reader.s), .d (.int .i64 x0.reader.at_), .d (.int .i64 x0.reader.where_), .d (.int .i64 x0.reader.e), .d (.ex wx0c1), .d (.int .i64 x0.deep)], .arrA wx0c1 36 9 (x0.nodes.map c_api_Node)] (fun γ => (.str r.1)) (fun γ => [.box bx0 47 [.d (.str r.2.reader.s), .d (.int .i64 r.2.reader.at_), .d (.int .i64 r.2.reader.where_), .d (.int .i64 r.2.reader.e), .d (.ex (γ 0)), .d (.int .i64 r.2.deep)], .arrA (γ 0) 36 9 (r.2.nodes.map c_api_Node)]) := by
  refine CallT.intro Try.func48 rfl (Nat.le_of_ble_eq_true rfl) ?_
  show T Try.prog 53 (Code.at [] (codeOf Try.f48)) ⟨paramSlots 0 [.ptr bx0 (0 + 0)], [.box bx0 47 [.d (.str x0.reader.s), .d (.int .i64 x0.reader.at_), .d (.int .i64 x0.reader.where_), .d (.int .i64 x0.reader.e), .d (.ex wx0c1), .d (.int .i64 x0.deep)], .arrA wx0c1 36 9 (x0.nodes.map c_api_Node)]⟩ (syntax_reader_name_q bx0 r)
  unfold syntax_reader_name at h
  refine T.seq ?_
  refine T.regionL ?_
  refine asg rfl rfl rfl rfl rfl ?_
  refine TL'.nil (thenS_normal ?_)
  refine T.seq ?_
  refine T.regionL ?_
  refine mv rfl rfl rfl rfl rfl ?_
  obtain ⟨v_86, e_87, h⟩ := bind_some h
  refine sp rfl (OpT.callG (is := [0, 1]) (ph := []) rfl (dl rfl rfl) Try.func44 rfl rfl (Args.cons rfl Args.nil) (syntax_reader_next_T K (bx0 := bx0) (wx0c1 := wx0c1) e_87) (.cons rfl rfl (.cons rfl rfl (.nil))) (fun _ => rfl) (fun γ_88 => ?_))
  refine nm (.c (.c (.n))) ?_
  refine TL'.nil (thenS_normal ?_)
  refine T.seq ?_
  refine T.regionL ?_
  refine mv rfl rfl rfl rfl rfl ?_
  refine sp rfl (OpT.nilCheck rfl (dl rfl rfl) rfl rfl ?_)
  refine sp rfl (OpT.fieldPtr rfl (dl rfl rfl) Try.underlying45 rfl i3 (by decide) rfl ?_)
  refine sp rfl (OpT.loadBox (i := 0) rfl (dl rfl rfl) Try.underlying3 rfl rfl rfl rfl ?_)
  refine asg rfl rfl rfl rfl rfl ?_
  refine TL'.nil (thenS_normal ?_)
  refine T.seq ?_
  refine T.regionL ?_
  refine mv rfl rfl rfl rfl rfl ?_
  refine sp rfl (OpT.nilCheck rfl (dl rfl rfl) rfl rfl ?_)
  refine sp rfl (OpT.fieldPtr rfl (dl rfl rfl) Try.underlying45 rfl i9 (by decide) rfl ?_)
  refine sp rfl (OpT.loadBox (i := 0) rfl (dl rfl rfl) Try.underlying9 rfl rfl rfl rfl ?_)
  refine mv rfl rfl rfl rfl rfl ?_
  obtain ⟨g_89, h⟩ := ck_some h
  refine sp rfl (OpT.sliceStr (l := (Int.toNat v_86.2.reader.at_)) (h := v_86.2.reader.s.size) rfl (dl rfl rfl) Try.underlying9 rfl (.some _ _ _ _ rfl g_89.1) (.none _) g_89.2.1 g_89.2.2 ?_)
  obtain ⟨v_90, e_91, h⟩ := bind_some h
  refine sp rfl (OpT.callPA rfl (dl rfl rfl) Try.func49 rfl rfl (Args.cons rfl (Args.cons rfl Args.nil)) (CallR.nil (strings_IndexByte_T K e_91)) ?_)
  refine asg rfl rfl rfl rfl rfl ?_
  refine TL'.nil (thenS_normal ?_)
  refine T.seq ?_
  refine T.seq ?_
  refine T.regionL ?_
  refine mv rfl rfl rfl rfl rfl ?_
  refine sp rfl (OpT.int2 rfl rfl (dl rfl rfl) rfl rfl ?_)
  refine TL'.nil (thenS_normal ?_)
  rcases bif_some h with ⟨c_92, h⟩ | ⟨c_92, h⟩
  · refine T.condT rfl c_92 ?_
    refine T.seq ?_
    refine T.regionL ?_
    refine mv rfl rfl rfl rfl rfl ?_
    refine mv rfl rfl rfl rfl rfl ?_
    refine sp rfl (OpT.nilCheck rfl (dl rfl rfl) rfl rfl ?_)
    refine sp rfl (OpT.fieldPtr rfl (dl rfl rfl) Try.underlying45 rfl i9 (by decide) rfl ?_)
    refine sp rfl (OpT.loadBox (i := 0) rfl (dl rfl rfl) Try.underlying9 rfl rfl rfl rfl ?_)
    refine sp rfl (OpT.lenStr rfl (dl rfl rfl) Try.underlying9 rfl ?_)
    obtain ⟨v_93, e_94, h⟩ := bind_some h
    refine sp rfl (OpT.callG (is := [0, 1]) (ph := []) rfl (dl rfl rfl) Try.func20 rfl rfl (Args.cons rfl (Args.cons rfl (Args.cons rfl Args.nil))) (syntax_reader_fail_T K (bx0 := bx0) (wx0c1 := (γ_88 0)) e_94) (.cons rfl rfl (.cons rfl rfl (.nil))) (fun _ => rfl) (fun γ_95 => ?_))
    refine nm (.c (.c (.n))) ?_
    refine TL'.nil (thenS_normal ?_)
    refine T.seq ?_
    refine T.regionL ?_
    refine asg rfl rfl rfl rfl rfl ?_
    refine TL'.nil (thenS_normal ?_)
    refine T.ret (thenS_ret ?_)
    exact Fin.doneK (.cons _ _ _ _ (.tmp 2 _ rfl) .nil) (.cons 0 rfl (.cons 0 rfl (.nil _))) (by cases h; exact ⟨gl [γ_95 0], rfl, rfl⟩)
  · refine T.condF rfl c_92 ?_
    refine T.skip (thenS_normal ?_)
    refine T.seq ?_
    refine T.regionL ?_
    refine mv rfl rfl rfl rfl rfl ?_
    refine sp rfl (OpT.nilCheck rfl (dl rfl rfl) rfl rfl ?_)
    refine sp rfl (OpT.fieldPtr rfl (dl rfl rfl) Try.underlying45 rfl i9 (by decide) rfl ?_)
    refine sp rfl (OpT.loadBox (i := 0) rfl (dl rfl rfl) Try.underlying9 rfl rfl rfl rfl ?_)
    refine mv rfl rfl rfl rfl rfl ?_
    refine mv rfl rfl rfl rfl rfl ?_
    refine mv rfl rfl rfl rfl rfl ?_
    refine sp rfl (OpT.int2 rfl rfl (dl rfl rfl) rfl rfl ?_)
    obtain ⟨g_96, h⟩ := ck_some h
    refine sp rfl (OpT.sliceStr (l := (Int.toNat v_86.2.reader.at_)) (h := (Int.toNat (IntKind.i64.wrap (v_86.2.reader.at_ + v_90)))) rfl (dl rfl rfl) Try.underlying9 rfl (.some _ _ _ _ rfl g_96.1) (.some _ _ _ _ rfl g_96.2.1) g_96.2.2.1 g_96.2.2.2 ?_)
    refine asg rfl rfl rfl rfl rfl ?_
    refine TL'.nil (thenS_normal ?_)
    refine T.seq ?_
    refine T.seq ?_
    refine T.regionL ?_
    refine mv rfl rfl rfl rfl rfl ?_
    obtain ⟨v_97, e_98, h⟩ := bind_some h
    refine sp rfl (OpT.callPA rfl (dl rfl rfl) Try.func14 rfl rfl (Args.cons rfl Args.nil) (CallR.nil (syntax_Name_T K e_98)) ?_)
    refine sp rfl (OpT.not rfl (dl rfl rfl) rfl ?_)
    refine TL'.nil (thenS_normal ?_)
    rcases bif_some h with ⟨c_99, h⟩ | ⟨c_99, h⟩
    · refine T.condT rfl c_99 ?_
      refine T.regionL ?_
      refine mv rfl rfl rfl rfl rfl ?_
      refine mv rfl rfl rfl rfl rfl ?_
      obtain ⟨v_100, e_101, h⟩ := bind_some h
      refine sp rfl (OpT.callG (is := [0, 1]) (ph := []) rfl (dl rfl rfl) Try.func20 rfl rfl (Args.cons rfl (Args.cons rfl (Args.cons rfl Args.nil))) (syntax_reader_fail_T K (bx0 := bx0) (wx0c1 := (γ_88 0)) e_101) (.cons rfl rfl (.cons rfl rfl (.nil))) (fun _ => rfl) (fun γ_102 => ?_))
      refine nm (.c (.c (.n))) ?_
      refine TL'.nil (thenS_normal ?_)
      refine T.by_turn ?_ (syntax_reader_name_j0_T K bx0 v_90 (v_86.2.reader.s.extract (Int.toNat v_86.2.reader.at_) (Int.toNat (IntKind.i64.wrap (v_86.2.reader.at_ + v_90)))) v_100.reader.s v_100.reader.at_ v_100.reader.where_ v_100.reader.e v_100.deep v_100.nodes (γ_102 0) h)
      exact Turn.rp (.cons rfl (.cons rfl (.cons rfl (.nil _)))) (.c .z (.c .z (.n _)))
    · refine T.condF rfl c_99 ?_
      refine T.skip (thenS_normal ?_)
      refine T.by_turn ?_ (syntax_reader_name_j0_T K bx0 v_90 (v_86.2.reader.s.extract (Int.toNat v_86.2.reader.at_) (Int.toNat (IntKind.i64.wrap (v_86.2.reader.at_ + v_90)))) v_86.2.reader.s v_86.2.reader.at_ v_86.2.reader.where_ v_86.2.reader.e v_86.2.deep v_86.2.nodes (γ_88 0) h)
      exact Turn.rp (.cons rfl (.cons rfl (.cons rfl (.nil _)))) (.c .z (.c .z (.n _)))

abbrev bset_Not_q (r : Arr4) : Exit → St → Prop := retS Try.prog Try.f45 (fun y t => y = (.agg (Arr4.dc .u64 r)) ∧ t = [])

abbrev bset_Not_qs11 (r : Arr4) : Exit → St → Prop := thenS (fun s' => T Try.prog 16 (Code.at [1, 1] (codeOf Try.f45)) s' ((bset_Not_q r))) ((bset_Not_q r))

abbrev bset_Not_qb0x11 (r : Arr4) : Exit → St → Prop := inBlockS 0 ((bset_Not_qs11 r))

theorem bset_Not_l0_T {r : Arr4} (K : Nat) : ∀ (k : Nat), ∀ (x0 : Arr4) (x6_0_3 : Int) (y1_0_0 : Arr4) (y2_0_1 : Arr4) (b1_0 : Nat) (b2_0 : Nat), bset_Not_l0 K k x0 x6_0_3 y1_0_0 y2_0_1 = some r → TL Try.prog 16 (Code.at [1, 0, 1, 0, 0] (codeOf Try.f45)) ⟨[(1, .ptr b1_0 0), (2, .ptr b2_0 0), (5, .agg (Arr4.dc .u64 x0)), (6, .int .i64 x6_0_3)], [.box b1_0 33 (Arr4.oc .u64 y1_0_0), .box b2_0 33 (Arr4.oc .u64 y2_0_1)]⟩ (bset_Not_qb0x11 r) := by
  intro k
  induction k with
  | zero =>
    intro x0 x6_0_3 y1_0_0 y2_0_1 b1_0 b2_0 h
    cases (show (none : Option Arr4) = some r from h)
  | succ k ih =>
    intro x0 x6_0_3 y1_0_0 y2_0_1 b1_0 b2_0 h
    rw [bset_Not_l0] at h
    refine TL.round ?_
    refine T.seq ?_
    refine T.regionL ?_
    refine sp rfl (OpT.int2 rfl rfl (dl rfl rfl) rfl rfl ?_)
    refine TL'.nil (thenS_normal ?_)
    refine T.seq ?_
    rcases bif_some h with ⟨c_29, h⟩ | ⟨c_29, h⟩
    · refine T.condT rfl c_29 ?_
      refine T.skip (thenS_normal ?_)
      refine T.seq ?_
      refine T.block ?_
      refine T.seq ?_
      refine T.regionL ?_
      refine mv rfl rfl rfl rfl rfl ?_
      obtain ⟨g_30, h⟩ := ck_some h
      refine sp rfl (OpT.indexArr rfl (dl rfl rfl) Try.underlying33 Try.underlying31 rfl i31 rfl rfl g_30.1 g_30.2 (Arr4.dc_get (a := x0) (k := .u64) g_30.1 g_30.2) ?_)
      refine asg rfl rfl rfl rfl rfl ?_
      refine asg rfl rfl rfl rfl rfl ?_
      refine TL'.nil (thenS_normal ?_)
      refine T.regionL ?_
      refine mv rfl rfl rfl rfl rfl ?_
      refine mv rfl rfl rfl rfl rfl ?_
      refine sp rfl (OpT.compl rfl (dl rfl rfl) rfl ?_)
      refine sp rfl (OpT.indexPtr rfl (dl rfl rfl) Try.underlying33 i31 rfl rfl g_30.1 g_30.2 ?_)
      refine sp rfl (OpT.storeTo (i := 0) (cells' := (Arr4.oc .u64 (Arr4.set y1_0_0 x6_0_3 (bits .xor .u64 IntKind.u64.max (Arr4.get x0 x6_0_3))))) rfl rfl i31 rfl rfl rfl (Arr4.oc_lt (k := .u64) (a := y1_0_0) (pre := []) (post := []) g_30.1 g_30.2) (Arr4.oc_set (k := .u64) (a := y1_0_0) (pre := []) (post := []) g_30.1 g_30.2) ?_)
      refine TL'.nil (inBlock_normal (thenS_normal ?_))
      refine T.regionL ?_
      refine sp rfl (OpT.int2 rfl rfl (dl rfl rfl) rfl rfl ?_)
      refine mv rfl rfl rfl rfl rfl ?_
      refine TL'.nil (thenS_normal ?_)
      refine TL.by_turn ?_ (ih x0 (IntKind.i64.wrap (x6_0_3 + (1 : Int))) (Arr4.set y1_0_0 x6_0_3 (bits .xor .u64 IntKind.u64.max (Arr4.get x0 x6_0_3))) y2_0_1 b1_0 b2_0 h)
      exact Turn.rp (.cons rfl (.cons rfl (.cons rfl (.cons rfl (.nil _))))) (.c .z (.c .z (.n _)))
    · refine T.condF rfl c_29 ?_
      refine T.exit (thenS_exit (thenS_exit (inBlock_exit (thenS_normal ?_))))
      refine T.seq ?_
      refine T.regionL ?_
      refine sp rfl (OpT.loadBoxAgg (i := 0) (l := (Arr4.dc .u64 y1_0_0)) rfl (dl rfl rfl) Try.underlying33 rfl i33 rfl rfl rfl rfl ?_)
      refine sp rfl (OpT.storeAggTo (i := 1) (cells' := (Arr4.oc .u64 y1_0_0)) rfl rfl i33 rfl rfl rfl rfl (Nat.le_of_ble_eq_true rfl) rfl ?_)
      refine TL'.nil (thenS_normal ?_)
      refine T.ret ?_
      exact Fin.done (.cons _ _ _ _ (.cellAgg 2 33 _ 0 1 33 _ (Arr4.dc .u64 y1_0_0) _ _ 4 _ rfl rfl rfl rfl Try.underlying33 rfl i33) .nil) (by cases h; exact ⟨rfl, rfl⟩)

theorem bset_Not_T (K : Nat) {x0 : Arr4} {r : Arr4} (h : bset_Not K x0 = some r) : CallR Try.prog 45 [.agg (Arr4.dc .u64 x0)] [] (.agg (Arr4.dc .u64 r)) := by
  refine CallT.intro Try.func45 rfl (Nat.le_of_ble_eq_true rfl) ?_
  show T Try.prog 16 (Code.at [] (codeOf Try.f45)) ⟨paramSlots 0 [.agg (Arr4.dc .u64 x0)], []⟩ (bset_Not_q r)
  unfold bset_Not at h
  refine T.seq ?_
  refine T.regionL ?_
  refine sp rfl (OpT.boxAgg rfl (dl rfl rfl) rfl (fun b_27 => ?_))
  refine sp rfl (OpT.alloc' rfl (dl rfl rfl) i33 rfl (fun b_28 => ?_))
  refine TL'.nil (thenS_normal ?_)
  refine T.seq ?_
  refine T.seq ?_
  refine T.regionL ?_
  refine sp rfl (OpT.loadBoxAgg (i := 1) (l := (Arr4.dc .u64 x0)) rfl (dl rfl rfl) Try.underlying33 rfl i33 rfl rfl rfl rfl ?_)
  refine mv rfl rfl rfl rfl rfl ?_
  refine TL'.nil (thenS_normal ?_)
  refine T.block ?_
  refine T.loop ?_
  refine TL.by_turn ?_ (bset_Not_l0_T K K x0 (0 : Int) x0 (Arr4.mk 0 0 0 0) b_27 b_28 h)
  exact Turn.rp (.cons rfl (.cons rfl (.cons rfl (.cons rfl (.nil _))))) (.c (.s .z) (.c .z (.n _)))

abbrev syntax_reader_is_q (bx0 : Nat) (x0 : syntax_parser) (r : Bool) : Exit → St → Prop := retS Try.prog Try.f35 (fun y t => ∃ γ : Nat → Value, y = (.bool r) ∧ t = [.box bx0 47 [.d (.str x0.reader.s), .d (.int .i64 x0.reader.at_), .d (.int .i64 x0.reader.where_), .d (.int .i64 x0.reader.e), .d (.ex (γ 0)), .d (.int .i64 x0.deep)], .arrA (γ 0) 36 9 (x0.nodes.map c_api_Node)])

theorem syntax_reader_is_T (K : Nat) {x0 : syntax_parser} {x1 : Int} {bx0 : Nat} {wx0c1 : Value} {r : Bool} (h : syntax_reader_is K x0 x1 = some r) : CallG Try.prog 35 [.ptr bx0 (0 + 0), .int .u8 x1] [.box bx0 47 [.d (.str x0.reader.s), .d (.int .i64 x0.reader.at_), .d (.int .i64 x0.reader.where_), .d (.int .i64 x0.reader.e), .d (.ex wx0c1), .d (.int .i64 x0.deep)], .arrA wx0c1 36 9 (x0.nodes.map c_api_Node)] (fun γ => (.bool r)) (fun γ => [.box bx0 47 [.d (.str x0.reader.s), .d (.int .i64 x0.reader.at_), .d (.int .i64 x0.reader.where_), .d (.int .i64 x0.reader.e), .d (.ex (γ 0)), .d (.int .i64 x0.deep)], .arrA (γ 0) 36 9 (x0.nodes.map c_api_Node)]) := by
  refine CallT.intro Try.func35 rfl (Nat.le_of_ble_eq_true rfl) ?_
  show T Try.prog 18 (Code.at [] (codeOf Try.f35)) ⟨paramSlots 0 [.ptr bx0 (0 + 0), .int .u8 x1], [.box bx0 47 [.d (.str x0.reader.s), .d (.int .i64 x0.reader.at_), .d (.int .i64 x0.reader.where_), .d (.int .i64 x0.reader.e), .d (.ex wx0c1), .d (.int .i64 x0.deep)], .arrA wx0c1 36 9 (x0.nodes.map c_api_Node)]⟩ (syntax_reader_is_q bx0 x0 r)
  unfold syntax_reader_is at h
  refine T.seq ?_
  refine T.regionL ?_
  refine asg rfl rfl rfl rfl rfl ?_
  refine TL'.nil (thenS_normal ?_)
  refine T.seq ?_
  refine T.regionL ?_
  refine mv rfl rfl rfl rfl rfl ?_
  obtain ⟨v_17, e_18, h⟩ := bind_some h
  refine sp rfl (OpT.callG (is := [0, 1]) (ph := []) rfl (dl rfl rfl) Try.func19 rfl rfl (Args.cons rfl Args.nil) (syntax_reader_peek_T K (bx0 := bx0) (wx0c1 := wx0c1) e_18) (.cons rfl rfl (.cons rfl rfl (.nil))) (fun _ => rfl) (fun γ_19 => ?_))
  refine nm (.c (.c (.n))) ?_
  refine mv rfl rfl rfl rfl rfl ?_
  refine sp rfl (OpT.extract rfl (dl rfl rfl) rfl rfl ?_)
  refine sp rfl (OpT.extract rfl (dl rfl rfl) rfl rfl ?_)
  refine asg rfl rfl rfl rfl rfl ?_
  refine asg rfl rfl rfl rfl rfl ?_
  refine TL'.nil (thenS_normal ?_)
  refine T.seq ?_
  refine T.regionL ?_
  refine mv rfl rfl rfl rfl rfl ?_
  refine mv rfl rfl rfl rfl rfl ?_
  rcases bif_some h with ⟨c_20, h⟩ | ⟨c_20, h⟩
  · refine TL'.step (.on rfl rfl rfl c_20) (OpT.move rfl (dl rfl rfl) rfl ?_)
    refine TL'.step (.on rfl rfl rfl c_20) (OpT.move rfl (dl rfl rfl) rfl ?_)
    refine TL'.step (.on rfl rfl rfl c_20) (OpT.int2 rfl rfl (dl rfl rfl) rfl rfl ?_)
    refine sp rfl (OpT.pickT rfl (dl rfl rfl) rfl c_20 rfl ?_)
    refine asg rfl rfl rfl rfl rfl ?_
    refine TL'.nil (thenS_normal ?_)
    refine T.ret ?_
    exact Fin.doneK (.cons _ _ _ _ (.tmp 4 _ rfl) .nil) (.cons 0 rfl (.cons 0 rfl (.nil _))) (by cases h; exact ⟨gl [γ_19 0], rfl, rfl⟩)
  · refine TL'.passU (.off _ _ _ _ rfl rfl rfl c_20) (dl rfl rfl) ?_
    refine TL'.passU (.off _ _ _ _ rfl rfl rfl c_20) (dl rfl rfl) ?_
    refine TL'.passU (.off _ _ _ _ rfl rfl rfl c_20) (dl rfl rfl) ?_
    refine sp rfl (OpT.pickF rfl (dl rfl rfl) rfl c_20 rfl ?_)
    refine asg rfl rfl rfl rfl rfl ?_
    refine TL'.nil (thenS_normal ?_)
    refine T.ret ?_
    exact Fin.doneK (.cons _ _ _ _ (.tmp 4 _ rfl) .nil) (.cons 0 rfl (.cons 0 rfl (.nil _))) (by cases h; exact ⟨gl [γ_19 0], rfl, rfl⟩)

abbrev syntax_reader_skip_q (bx0 : Nat) (r : Bool × syntax_parser) : Exit → St → Prop := retS Try.prog Try.f29 (fun y t => ∃ γ : Nat → Value, y = (.bool r.1) ∧ t = [.box bx0 47 [.d (.str r.2.reader.s), .d (.int .i64 r.2.reader.at_), .d (.int .i64 r.2.reader.where_), .d (.int .i64 r.2.reader.e), .d (.ex (γ 0)), .d (.int .i64 r.2.deep)], .arrA (γ 0) 36 9 (r.2.nodes.map c_api_Node)])

theorem syntax_reader_skip_T (K : Nat) {x0 : syntax_parser} {x1 : Int} {bx0 : Nat} {wx0c1 : Value} {r : Bool × syntax_parser} (h : syntax_reader_skip K x0 x1 = some r) : CallG Try.prog 29 [.ptr bx0 (0 + 0), .int .u8 x1] [.box bx0 47 [.d (.str x0.reader.s), .d (.int .i64 x0.reader.at_), .d (.int .i64 x0.reader.where_), .d (.int .i64 x0.reader.e), .d (.ex wx0c1), .d (.int .i64 x0.deep)], .arrA wx0c1 36 9 (x0.nodes.map c_api_Node)] (fun γ => (.bool r.1)) (fun γ => [.box bx0 47 [.d (.str r.2.reader.s), .d (.int .i64 r.2.reader.at_), .d (.int .i64 r.2.reader.where_), .d (.int .i64 r.2.reader.e), .d (.ex (γ 0)), .d (.int .i64 r.2.deep)], .arrA (γ 0) 36 9 (r.2.nodes.map c_api_Node)]) := by
  refine CallT.intro Try.func29 rfl (Nat.le_of_ble_eq_true rfl) ?_
  show T Try.prog 16 (Code.at [] (codeOf Try.f29)) ⟨paramSlots 0 [.ptr bx0 (0 + 0), .int .u8 x1], [.box bx0 47 [.d (.str x0.reader.s), .d (.int .i64 x0.reader.at_), .d (.int .i64 x0.reader.where_), .d (.int .i64 x0.reader.e), .d (.ex wx0c1), .d (.int .i64 x0.deep)], .arrA wx0c1 36 9 (x0.nodes.map c_api_Node)]⟩ (syntax_reader_skip_q bx0 r)
  unfold syntax_reader_skip at h
  refine T.seq ?_
  refine T.regionL ?_
  refine asg rfl rfl rfl rfl rfl ?_
  refine TL'.nil (thenS_normal ?_)
  refine T.seq ?_
  refine T.seq ?_
  refine T.regionL ?_
  refine mv rfl rfl rfl rfl rfl ?_
  refine mv rfl rfl rfl rfl rfl ?_
  obtain ⟨v_17, e_18, h⟩ := bind_some h
  refine sp rfl (OpT.callG (is := [0, 1]) (ph := []) rfl (dl rfl rfl) Try.func35 rfl rfl (Args.cons rfl (Args.cons rfl Args.nil)) (syntax_reader_is_T K (bx0 := bx0) (wx0c1 := wx0c1) e_18) (.cons rfl rfl (.cons rfl rfl (.nil))) (fun _ => rfl) (fun γ_19 => ?_))
  refine nm (.c (.c (.n))) ?_
  refine sp rfl (OpT.not rfl (dl rfl rfl) rfl ?_)
  refine TL'.nil (thenS_normal ?_)
  rcases bif_some h with ⟨c_20, h⟩ | ⟨c_20, h⟩
  · refine T.condT rfl c_20 ?_
    refine T.seq ?_
    refine T.regionL ?_
    refine asg rfl rfl rfl rfl rfl ?_
    refine TL'.nil (thenS_normal ?_)
    refine T.ret (thenS_ret ?_)
    exact Fin.doneK (.cons _ _ _ _ (.tmp 4 _ rfl) .nil) (.cons 0 rfl (.cons 0 rfl (.nil _))) (by cases h; exact ⟨gl [γ_19 0], rfl, rfl⟩)
  · refine T.condF rfl c_20 ?_
    refine T.skip (thenS_normal ?_)
    refine T.seq ?_
    refine T.regionL ?_
    refine mv rfl rfl rfl rfl rfl ?_
    refine sp rfl (OpT.nilCheck rfl (dl rfl rfl) rfl rfl ?_)
    refine sp rfl (OpT.fieldPtr rfl (dl rfl rfl) Try.underlying45 rfl i3 (by decide) rfl ?_)
    refine sp rfl (OpT.loadBox (i := 0) rfl (dl rfl rfl) Try.underlying3 rfl rfl rfl rfl ?_)
    refine sp rfl (OpT.int2 rfl rfl (dl rfl rfl) rfl rfl ?_)
    refine sp rfl (OpT.nilCheck rfl (dl rfl rfl) rfl rfl ?_)
    refine sp rfl (OpT.fieldPtr rfl (dl rfl rfl) Try.underlying45 rfl i3 (by decide) rfl ?_)
    refine sp rfl (OpT.storeTo (i := 0) (cells' := [.d (.str x0.reader.s), .d (.int .i64 (IntKind.i64.wrap (x0.reader.at_ + (1 : Int)))), .d (.int .i64 x0.reader.where_), .d (.int .i64 x0.reader.e), .d (.ex (γ_19 0)), .d (.int .i64 x0.deep)]) rfl rfl i3 rfl rfl rfl (Nat.le_of_ble_eq_true rfl) rfl ?_)
    refine TL'.nil (thenS_normal ?_)
    refine T.seq ?_
    refine T.regionL ?_
    refine asg rfl rfl rfl rfl rfl ?_
    refine TL'.nil (thenS_normal ?_)
    refine T.ret ?_
    exact Fin.doneK (.cons _ _ _ _ (.tmp 4 _ rfl) .nil) (.cons 0 rfl (.cons 0 rfl (.nil _))) (by cases h; exact ⟨gl [γ_19 0], rfl, rfl⟩)

abbrev syntax_reader_member_q (bx0 : Nat) (r : Int × syntax_parser) : Exit → St → Prop := retS Try.prog Try.f52 (fun y t => ∃ γ : Nat → Value, y = (.int .u8 r.1) ∧ t = [.box bx0 47 [.d (.str r.2.reader.s), .d (.int .i64 r.2.reader.at_), .d (.int .i64 r.2.reader.where_), .d (.int .i64 r.2.reader.e), .d (.ex (γ 0)), .d (.int .i64 r.2.deep)], .arrA (γ 0) 36 9 (r.2.nodes.map c_api_Node)])

abbrev syntax_reader_member_qs11 (bx0 : Nat) (r : Int × syntax_parser) : Exit → St → Prop := thenS (fun s' => T Try.prog 29 (Code.at [1, 1] (codeOf Try.f52)) s' ((syntax_reader_member_q bx0 r))) ((syntax_reader_member_q bx0 r))

theorem syntax_reader_member_j0_T {r : Int × syntax_parser} (K : Nat) (bx0 : Nat) (y0_0_0 : ByteArray) (y0_0_1 : Int) (y0_0_2 : Int) (y0_0_3 : Int) (y0_0_5 : Int) (y0_0_4 : List api_Node) (w0_0 : Value) (h : syntax_reader_member_j0 K y0_0_0 y0_0_1 y0_0_2 y0_0_3 y0_0_5 y0_0_4 = some r) : T Try.prog 29 (Code.at [1, 1] (codeOf Try.f52)) ⟨[(0, .ptr bx0 (0 + 0))], [.box bx0 47 [.d (.str y0_0_0), .d (.int .i64 y0_0_1), .d (.int .i64 y0_0_2), .d (.int .i64 y0_0_3), .d (.ex w0_0), .d (.int .i64 y0_0_5)], .arrA w0_0 36 9 (y0_0_4.map c_api_Node)]⟩ (syntax_reader_member_q bx0 r) := by
  unfold syntax_reader_member_j0 at h
  refine T.seq ?_
  refine T.seq ?_
  refine T.regionL ?_
  refine mv rfl rfl rfl rfl rfl ?_
  refine sp rfl (OpT.nilCheck rfl (dl rfl rfl) rfl rfl ?_)
  refine sp rfl (OpT.fieldPtr rfl (dl rfl rfl) Try.underlying45 rfl i24 (by decide) rfl ?_)
  refine sp rfl (OpT.loadBox (i := 0) rfl (dl rfl rfl) Try.underlying24 rfl rfl rfl rfl ?_)
  refine sp rfl (OpT.int2 rfl rfl (dl rfl rfl) rfl rfl ?_)
  refine TL'.nil (thenS_normal ?_)
  rcases bif_some h with ⟨c_109, h⟩ | ⟨c_109, h⟩
  · refine T.condT rfl c_109 ?_
    refine T.seq ?_
    refine T.regionL ?_
    refine asg rfl rfl rfl rfl rfl ?_
    refine TL'.nil (thenS_normal ?_)
    refine T.ret (thenS_ret ?_)
    exact Fin.doneK (.cons _ _ _ _ (.tmp 2 _ rfl) .nil) (.cons 0 rfl (.cons 0 rfl (.nil _))) (by cases h; exact ⟨gl [w0_0], rfl, rfl⟩)
  · refine T.condF rfl c_109 ?_
    refine T.skip (thenS_normal ?_)
    refine T.seq ?_
    refine T.regionL ?_
    refine mv rfl rfl rfl rfl rfl ?_
    obtain ⟨v_110, e_111, h⟩ := bind_some h
    refine sp rfl (OpT.callG (is := [0, 1]) (ph := []) rfl (dl rfl rfl) Try.func50 rfl rfl (Args.cons rfl Args.nil) (syntax_reader_one_T K (bx0 := bx0) (wx0c1 := w0_0) e_111) (.cons rfl rfl (.cons rfl rfl (.nil))) (fun _ => rfl) (fun γ_112 => ?_))
    refine nm (.c (.c (.n))) ?_
    refine asg rfl rfl rfl rfl rfl ?_
    refine TL'.nil (thenS_normal ?_)
    refine T.ret ?_
    exact Fin.doneK (.cons _ _ _ _ (.tmp 2 _ rfl) .nil) (.cons 0 rfl (.cons 0 rfl (.nil _))) (by cases h; exact ⟨gl [γ_112 0], rfl, rfl⟩)

theorem syntax_reader_member_j1_T {r : Int × syntax_parser} (K : Nat) (bx0 : Nat) (x0 : syntax_parser) (w0_1 : Value) (h : syntax_reader_member_j1 K x0 = some r) : T Try.prog 29 (Code.at [1, 0, 1, 1, 1] (codeOf Try.f52)) ⟨[(0, .ptr bx0 (0 + 0))], [.box bx0 47 [.d (.str x0.reader.s), .d (.int .i64 x0.reader.at_), .d (.int .i64 x0.reader.where_), .d (.int .i64 x0.reader.e), .d (.ex w0_1), .d (.int .i64 x0.deep)], .arrA w0_1 36 9 (x0.nodes.map c_api_Node)]⟩ (syntax_reader_member_qs11 bx0 r) := by
  unfold syntax_reader_member_j1 at h
  refine T.skip (thenS_normal ?_)
  refine T.by_turn ?_ (syntax_reader_member_j0_T K bx0 x0.reader.s x0.reader.at_ x0.reader.where_ x0.reader.e x0.deep x0.nodes w0_1 h)
  exact Turn.rp (.cons rfl (.nil _)) (.c .z (.c .z (.n _)))

theorem syntax_reader_member_T (K : Nat) {x0 : syntax_parser} {bx0 : Nat} {wx0c1 : Value} {r : Int × syntax_parser} (h : syntax_reader_member K x0 = some r) : CallG Try.prog 52 [.ptr bx0 (0 + 0)] [.box bx0 47 [.d (.str x0.reader.s), .d (.int .i64 x0.reader.at_), .d (.int .i64 x0.reader.where_), .d (.int .i64 x0.reader.e), .d (.ex wx0c1), .d (.int .i64 x0.deep)], .arrA wx0c1 36 9 (x0.nodes.map c_api_Node)] (fun γ => (.int .u8 r.1)) (fun γ => [.box bx0 47 [.d (.str r.2.reader.s), .d (.int .i64 r.2.reader.at_), .d (.int .i64 r.2.reader.where_), .d (.int .i64 r.2.reader.e), .d (.ex (γ 0)), .d (.int .i64 r.2.deep)], .arrA (γ 0) 36 9 (r.2.nodes.map c_api_Node)]) := by
  refine CallT.intro Try.func52 rfl (Nat.le_of_ble_eq_true rfl) ?_
  show T Try.prog 29 (Code.at [] (codeOf Try.f52)) ⟨paramSlots 0 [.ptr bx0 (0 + 0)], [.box bx0 47 [.d (.str x0.reader.s), .d (.int .i64 x0.reader.at_), .d (.int .i64 x0.reader.where_), .d (.int .i64 x0.reader.e), .d (.ex wx0c1), .d (.int .i64 x0.deep)], .arrA wx0c1 36 9 (x0.nodes.map c_api_Node)]⟩ (syntax_reader_member_q bx0 r)
  unfold syntax_reader_member at h
  refine T.seq ?_
  refine T.regionL ?_
  refine asg rfl rfl rfl rfl rfl ?_
  refine TL'.nil (thenS_normal ?_)
  refine T.seq ?_
  refine T.seq ?_
  refine T.regionL ?_
  refine mv rfl rfl rfl rfl rfl ?_
  obtain ⟨v_99, e_100, h⟩ := bind_some h
  refine sp rfl (OpT.callG (is := [0, 1]) (ph := []) rfl (dl rfl rfl) Try.func19 rfl rfl (Args.cons rfl Args.nil) (syntax_reader_peek_T K (bx0 := bx0) (wx0c1 := wx0c1) e_100) (.cons rfl rfl (.cons rfl rfl (.nil))) (fun _ => rfl) (fun γ_101 => ?_))
  refine nm (.c (.c (.n))) ?_
  refine mv rfl rfl rfl rfl rfl ?_
  refine sp rfl (OpT.extract rfl (dl rfl rfl) rfl rfl ?_)
  refine sp rfl (OpT.extract rfl (dl rfl rfl) rfl rfl ?_)
  refine asg rfl rfl rfl rfl rfl ?_
  refine asg rfl rfl rfl rfl rfl ?_
  refine TL'.nil (thenS_normal ?_)
  refine T.seq ?_
  refine T.regionL ?_
  refine mv rfl rfl rfl rfl rfl ?_
  refine mv rfl rfl rfl rfl rfl ?_
  rcases bif_some h with ⟨c_102, h⟩ | ⟨c_102, h⟩
  · refine TL'.step (.on rfl rfl rfl c_102) (OpT.move rfl (dl rfl rfl) rfl ?_)
    obtain ⟨v_103, e_104, h⟩ := bind_some h
    refine TL'.step (.on rfl rfl rfl c_102) (OpT.callPA rfl (dl rfl rfl) Try.func49 rfl rfl (Args.cons rfl (Args.cons rfl Args.nil)) (CallR.nil (strings_IndexByte_T K e_104)) ?_)
    refine TL'.step (.on rfl rfl rfl c_102) (OpT.int2 rfl rfl (dl rfl rfl) rfl rfl ?_)
    refine sp rfl (OpT.pickT rfl (dl rfl rfl) rfl c_102 rfl ?_)
    refine TL'.nil (thenS_normal ?_)
    rcases bif_some h with ⟨c_105, h⟩ | ⟨c_105, h⟩
    · refine T.condT rfl c_105 ?_
      refine T.regionL ?_
      refine mv rfl rfl rfl rfl rfl ?_
      refine mv rfl rfl rfl rfl rfl ?_
      refine sp rfl (OpT.nilCheck rfl (dl rfl rfl) rfl rfl ?_)
      refine sp rfl (OpT.fieldPtr rfl (dl rfl rfl) Try.underlying45 rfl i3 (by decide) rfl ?_)
      refine sp rfl (OpT.loadBox (i := 0) rfl (dl rfl rfl) Try.underlying3 rfl rfl rfl rfl ?_)
      obtain ⟨v_106, e_107, h⟩ := bind_some h
      refine sp rfl (OpT.callG (is := [0, 1]) (ph := []) rfl (dl rfl rfl) Try.func20 rfl rfl (Args.cons rfl (Args.cons rfl (Args.cons rfl Args.nil))) (syntax_reader_fail_T K (bx0 := bx0) (wx0c1 := (γ_101 0)) e_107) (.cons rfl rfl (.cons rfl rfl (.nil))) (fun _ => rfl) (fun γ_108 => ?_))
      refine nm (.c (.c (.n))) ?_
      refine TL'.nil (thenS_normal ?_)
      refine T.by_turn ?_ (syntax_reader_member_j0_T K bx0 v_106.reader.s v_106.reader.at_ v_106.reader.where_ v_106.reader.e v_106.deep v_106.nodes (γ_108 0) h)
      exact Turn.rp (.cons rfl (.nil _)) (.c .z (.c .z (.n _)))
    · refine T.condF rfl c_105 ?_
      refine T.by_turn ?_ (syntax_reader_member_j1_T K bx0 x0 (γ_101 0) h)
      exact Turn.rp (.cons rfl (.nil _)) (.c .z (.c .z (.n _)))
  · refine TL'.passU (.off _ _ _ _ rfl rfl rfl c_102) (dl rfl rfl) ?_
    refine TL'.passU (.off _ _ _ _ rfl rfl rfl c_102) (dl rfl rfl) ?_
    refine TL'.passU (.off _ _ _ _ rfl rfl rfl c_102) (dl rfl rfl) ?_
    refine sp rfl (OpT.pickF rfl (dl rfl rfl) rfl c_102 rfl ?_)
    refine TL'.nil (thenS_normal ?_)
    refine T.condF rfl rfl ?_
    refine T.by_turn ?_ (syntax_reader_member_j1_T K bx0 x0 (γ_101 0) h)
    exact Turn.rp (.cons rfl (.nil _)) (.c .z (.c .z (.n _)))

abbrev bset_Range_q (r : Arr4) : Exit → St → Prop := retS Try.prog Try.f54 (fun y t => y = (.agg (Arr4.dc .u64 r)) ∧ t = [])

abbrev bset_Range_qs111 (r : Arr4) : Exit → St → Prop := thenS (fun s' => T Try.prog 25 (Code.at [1, 1, 1] (codeOf Try.f54)) s' ((bset_Range_q r))) ((bset_Range_q r))

abbrev bset_Range_qb0x111 (r : Arr4) : Exit → St → Prop := inBlockS 0 ((bset_Range_qs111 r))

theorem bset_Range_l0_T {r : Arr4} (K : Nat) : ∀ (k : Nat), ∀ (x1 : Int) (x6_0_3 : Int) (y4_0_1 : Arr4) (y5_0_2 : Arr4) (b4_0 : Nat) (b5_0 : Nat), bset_Range_l0 K k x1 x6_0_3 y4_0_1 y5_0_2 = some r → TL Try.prog 25 (Code.at [1, 1, 0, 1, 0, 0] (codeOf Try.f54)) ⟨[(1, .int .u8 x1), (4, .ptr b4_0 0), (5, .ptr b5_0 0), (6, .int .i64 x6_0_3)], [.box b4_0 33 (Arr4.oc .u64 y4_0_1), .box b5_0 33 (Arr4.oc .u64 y5_0_2)]⟩ (bset_Range_qb0x111 r) := by
  intro k
  induction k with
  | zero =>
    intro x1 x6_0_3 y4_0_1 y5_0_2 b4_0 b5_0 h
    cases (show (none : Option Arr4) = some r from h)
  | succ k ih =>
    intro x1 x6_0_3 y4_0_1 y5_0_2 b4_0 b5_0 h
    rw [bset_Range_l0] at h
    refine TL.round ?_
    refine T.seq ?_
    refine T.seq ?_
    refine T.regionL ?_
    refine mv rfl rfl rfl rfl rfl ?_
    refine mv rfl rfl rfl rfl rfl ?_
    refine sp rfl (OpT.convInt rfl (dl rfl rfl) Try.underlying5 Try.underlying3 rfl ?_)
    refine sp rfl (OpT.int2 rfl rfl (dl rfl rfl) rfl rfl ?_)
    refine TL'.nil (thenS_normal ?_)
    rcases bif_some h with ⟨c_43, h⟩ | ⟨c_43, h⟩
    · refine T.condT rfl c_43 ?_
      refine T.skip (thenS_normal ?_)
      refine T.seq ?_
      refine T.block ?_
      refine DG.start ?_
      refine DG.mv rfl rfl rfl rfl rfl rfl ?_
      refine DG.step (c := ⟨some 16, .int .i64 (IntKind.i64.wrap (Int.tdiv x6_0_3 (64 : Int))), [(15, .int .i64 x6_0_3)], [], []⟩) (fun t hm => One.step rfl (.free rfl) (OpT.quo rfl (dl rfl rfl) hm.s0 rfl (by decide) rfl)) (Ct.met_of rfl rfl) ?_
      obtain ⟨g_47, h⟩ := ck_some h
      refine DG.step (c := ⟨some 17, .ptr b5_0 (0 + (Int.toNat (IntKind.i64.wrap (Int.tdiv x6_0_3 (64 : Int)))) * 1), [(5, .ptr b5_0 0), (16, .int .i64 (IntKind.i64.wrap (Int.tdiv x6_0_3 (64 : Int))))], [], []⟩) (fun t hm => One.step rfl (.free rfl) (OpT.indexPtr rfl (dl rfl rfl) Try.underlying33 i31 hm.s0 hm.s1 g_47.1 g_47.2 rfl)) (Ct.met_of rfl rfl) ?_
      refine DG.step (c := ⟨some 18, .int .u64 (Arr4.get y5_0_2 (IntKind.i64.wrap (Int.tdiv x6_0_3 (64 : Int)))), [(17, .ptr b5_0 (0 + (Int.toNat (IntKind.i64.wrap (Int.tdiv x6_0_3 (64 : Int)))) * 1))], [(1, .box b5_0 33 (Arr4.oc .u64 y5_0_2))], []⟩) (fun t hm => One.step rfl (.free rfl) (OpT.loadBox (i := 1) rfl (dl rfl rfl) Try.underlying31 rfl hm.s0 hm.o0 (Arr4.oc_get (k := .u64) (a := y5_0_2) (pre := []) (post := []) g_47.1 g_47.2) rfl)) (Ct.met_of rfl rfl) ?_
      refine DG.mv rfl rfl rfl rfl rfl rfl ?_
      refine DG.step (c := ⟨some 20, .int .i64 (Int.tmod x6_0_3 (64 : Int)), [(19, .int .i64 x6_0_3)], [], []⟩) (fun t hm => One.step rfl (.free rfl) (OpT.rem rfl (dl rfl rfl) hm.s0 rfl (by decide) rfl)) (Ct.met_of rfl rfl) ?_
      obtain ⟨g_48, h⟩ := ck_some h
      refine DG.step (c := ⟨some 21, .int .u64 (IntKind.u64.wrap ((1 : Int) * 2 ^ min (Int.toNat (Int.tmod x6_0_3 (64 : Int))) IntKind.u64.bits)), [(20, .int .i64 (Int.tmod x6_0_3 (64 : Int)))], [], []⟩) (fun t hm => One.step rfl (.free rfl) (OpT.shl rfl (dl rfl rfl) rfl hm.s0 g_48 rfl)) (Ct.met_of rfl rfl) ?_
      refine DG.step (c := ⟨some 22, .int .u64 (bits .or .u64 (Arr4.get y5_0_2 (IntKind.i64.wrap (Int.tdiv x6_0_3 (64 : Int)))) (IntKind.u64.wrap ((1 : Int) * 2 ^ min (Int.toNat (Int.tmod x6_0_3 (64 : Int))) IntKind.u64.bits))), [(18, .int .u64 (Arr4.get y5_0_2 (IntKind.i64.wrap (Int.tdiv x6_0_3 (64 : Int))))), (21, .int .u64 (IntKind.u64.wrap ((1 : Int) * 2 ^ min (Int.toNat (Int.tmod x6_0_3 (64 : Int))) IntKind.u64.bits)))], [], []⟩) (fun t hm => One.step rfl (.free rfl) (OpT.int2 rfl rfl (dl rfl rfl) hm.s0 hm.s1 rfl)) (Ct.met_of rfl rfl) ?_
      refine DG.step (c := ⟨some 23, .ptr b5_0 (0 + (Int.toNat (IntKind.i64.wrap (Int.tdiv x6_0_3 (64 : Int)))) * 1), [(5, .ptr b5_0 0), (16, .int .i64 (IntKind.i64.wrap (Int.tdiv x6_0_3 (64 : Int))))], [], []⟩) (fun t hm => One.step rfl (.free rfl) (OpT.indexPtr rfl (dl rfl rfl) Try.underlying33 i31 hm.s0 hm.s1 g_47.1 g_47.2 rfl)) (Ct.met_of rfl rfl) ?_
      refine DG.step (c := ⟨none, .any, [(23, .ptr b5_0 (0 + (Int.toNat (IntKind.i64.wrap (Int.tdiv x6_0_3 (64 : Int)))) * 1)), (22, .int .u64 (bits .or .u64 (Arr4.get y5_0_2 (IntKind.i64.wrap (Int.tdiv x6_0_3 (64 : Int)))) (IntKind.u64.wrap ((1 : Int) * 2 ^ min (Int.toNat (Int.tmod x6_0_3 (64 : Int))) IntKind.u64.bits))))], [(1, .box b5_0 33 (Arr4.oc .u64 y5_0_2))], [(1, .box b5_0 33 (Arr4.oc .u64 (Arr4.set y5_0_2 (IntKind.i64.wrap (Int.tdiv x6_0_3 (64 : Int))) (bits .or .u64 (Arr4.get y5_0_2 (IntKind.i64.wrap (Int.tdiv x6_0_3 (64 : Int)))) (IntKind.u64.wrap ((1 : Int) * 2 ^ min (Int.toNat (Int.tmod x6_0_3 (64 : Int))) IntKind.u64.bits))))))]⟩) (fun t hm => One.step rfl (.free rfl) (OpT.storeTo (i := 1) (cells' := (Arr4.oc .u64 (Arr4.set y5_0_2 (IntKind.i64.wrap (Int.tdiv x6_0_3 (64 : Int))) (bits .or .u64 (Arr4.get y5_0_2 (IntKind.i64.wrap (Int.tdiv x6_0_3 (64 : Int)))) (IntKind.u64.wrap ((1 : Int) * 2 ^ min (Int.toNat (Int.tmod x6_0_3 (64 : Int))) IntKind.u64.bits)))))) rfl rfl i31 hm.s0 hm.s1 hm.o0 (Arr4.oc_lt (k := .u64) (a := y5_0_2) (pre := []) (post := []) g_47.1 g_47.2) (Arr4.oc_set (k := .u64) (a := y5_0_2) (pre := []) (post := []) g_47.1 g_47.2) rfl)) (Ct.met_of rfl rfl) ?_
      refine DG.fin (s1 := ⟨[(1, .int .u8 x1), (4, .ptr b4_0 0), (5, .ptr b5_0 0), (6, .int .i64 x6_0_3)], [.box b4_0 33 (Arr4.oc .u64 y4_0_1), .box b5_0 33 (Arr4.oc .u64 (Arr4.set y5_0_2 (IntKind.i64.wrap (Int.tdiv x6_0_3 (64 : Int))) (bits .or .u64 (Arr4.get y5_0_2 (IntKind.i64.wrap (Int.tdiv x6_0_3 (64 : Int)))) (IntKind.u64.wrap ((1 : Int) * 2 ^ min (Int.toNat (Int.tmod x6_0_3 (64 : Int))) IntKind.u64.bits)))))]⟩) (ms := [0, 1, 3, 7, 0, 16, 48, 127, 255, 511]) TryMixed rfl (by kernel_rfl) (by kernel_rfl) (by kernel_rfl) (.cons rfl (.cons rfl (.cons rfl (.cons rfl (.nil _))))) rfl (fun u hu => (inBlock_normal (thenS_normal (T.by_turn hu ?_))))
      refine T.regionL ?_
      refine mv rfl rfl rfl rfl rfl ?_
      refine sp rfl (OpT.int2 rfl rfl (dl rfl rfl) rfl rfl ?_)
      refine asg rfl rfl rfl rfl rfl ?_
      refine TL'.nil (thenS_normal ?_)
      refine TL.by_turn ?_ (ih x1 (IntKind.i64.wrap (x6_0_3 + (1 : Int))) y4_0_1 (Arr4.set y5_0_2 (IntKind.i64.wrap (Int.tdiv x6_0_3 (64 : Int))) (bits .or .u64 (Arr4.get y5_0_2 (IntKind.i64.wrap (Int.tdiv x6_0_3 (64 : Int)))) (IntKind.u64.wrap ((1 : Int) * 2 ^ min (Int.toNat (Int.tmod x6_0_3 (64 : Int))) IntKind.u64.bits)))) b4_0 b5_0 h)
      exact Turn.rp (.cons rfl (.cons rfl (.cons rfl (.cons rfl (.nil _))))) (.c .z (.c .z (.n _)))
    · refine T.condF rfl c_43 ?_
      refine T.exit (thenS_exit (thenS_exit (inBlock_exit (thenS_normal ?_))))
      refine T.seq ?_
      refine T.regionL ?_
      refine sp rfl (OpT.loadBoxAgg (i := 1) (l := (Arr4.dc .u64 y5_0_2)) rfl (dl rfl rfl) Try.underlying33 rfl i33 rfl rfl rfl rfl ?_)
      refine sp rfl (OpT.storeAggTo (i := 0) (cells' := (Arr4.oc .u64 y5_0_2)) rfl rfl i33 rfl rfl rfl rfl (Nat.le_of_ble_eq_true rfl) rfl ?_)
      refine TL'.nil (thenS_normal ?_)
      refine T.ret ?_
      exact Fin.done (.cons _ _ _ _ (.cellAgg 4 33 _ 0 0 33 _ (Arr4.dc .u64 y5_0_2) _ _ 4 _ rfl rfl rfl rfl Try.underlying33 rfl i33) .nil) (by cases h; exact ⟨rfl, rfl⟩)

theorem bset_Range_T (K : Nat) {x0 : Int} {x1 : Int} {r : Arr4} (h : bset_Range K x0 x1 = some r) : CallR Try.prog 54 [.int .u8 x0, .int .u8 x1] [] (.agg (Arr4.dc .u64 r)) := by
  refine CallT.intro Try.func54 rfl (Nat.le_of_ble_eq_true rfl) ?_
  show T Try.prog 25 (Code.at [] (codeOf Try.f54)) ⟨paramSlots 0 [.int .u8 x0, .int .u8 x1], []⟩ (bset_Range_q r)
  unfold bset_Range at h
  refine T.seq ?_
  refine T.regionL ?_
  refine sp rfl (OpT.alloc' rfl (dl rfl rfl) i33 rfl (fun b_41 => ?_))
  refine TL'.nil (thenS_normal ?_)
  refine T.seq ?_
  refine T.regionL ?_
  refine sp rfl (OpT.alloc' rfl (dl rfl rfl) i33 rfl (fun b_42 => ?_))
  refine TL'.nil (thenS_normal ?_)
  refine T.seq ?_
  refine T.seq ?_
  refine T.regionL ?_
  refine mv rfl rfl rfl rfl rfl ?_
  refine sp rfl (OpT.convInt rfl (dl rfl rfl) Try.underlying5 Try.underlying3 rfl ?_)
  refine asg rfl rfl rfl rfl rfl ?_
  refine TL'.nil (thenS_normal ?_)
  refine T.block ?_
  refine T.loop ?_
  refine TL.by_turn ?_ (bset_Range_l0_T K K x1 (IntKind.i64.wrap x0) (Arr4.mk 0 0 0 0) (Arr4.mk 0 0 0 0) b_41 b_42 h)
  exact Turn.rp (.cons rfl (.cons rfl (.cons rfl (.cons rfl (.nil _))))) (.c (.s .z) (.c .z (.n _)))

abbrev bset_Or_q (r : Arr4) : Exit → St → Prop := retS Try.prog Try.f53 (fun y t => y = (.agg (Arr4.dc .u64 r)) ∧ t = [])

abbrev bset_Or_qs111 (r : Arr4) : Exit → St → Prop := thenS (fun s' => T Try.prog 28 (Code.at [1, 1, 1] (codeOf Try.f53)) s' ((bset_Or_q r))) ((bset_Or_q r))

abbrev bset_Or_qb0x111 (r : Arr4) : Exit → St → Prop := inBlockS 0 ((bset_Or_qs111 r))

abbrev bset_Or_ql11010 (r : Arr4) : Exit → St → Prop := thenS (fun s' => TL Try.prog 28 (Code.at [1, 1, 0, 1, 0, 0] (codeOf Try.f53)) s' ((bset_Or_qb0x111 r))) ((bset_Or_qb0x111 r))

abbrev bset_Or_qs110100111 (r : Arr4) : Exit → St → Prop := thenS (fun s' => T Try.prog 28 (Code.at [1, 1, 0, 1, 0, 0, 1, 1, 1] (codeOf Try.f53)) s' ((bset_Or_ql11010 r))) ((bset_Or_ql11010 r))

abbrev bset_Or_qb1_0x110100111 (r : Arr4) : Exit → St → Prop := inBlockS 1 ((bset_Or_qs110100111 r))

abbrev bset_Or_qb2_1_0x110100111 (r : Arr4) : Exit → St → Prop := inBlockS 2 ((bset_Or_qb1_0x110100111 r))

abbrev bset_Or_l0_H (r : Arr4) (go : (List Arr4) → Int → Int → Arr4 → Arr4 → Option Arr4) : Prop := ∀ (x0 : List Arr4) (x9_0_3 : Int) (x10_0_4 : Int) (y2_0_0 : Arr4) (y3_0_1 : Arr4) (flx0 : Bool) (b2_0 : Nat) (b3_0 : Nat), go x0 x9_0_3 x10_0_4 y2_0_0 y3_0_1 = some r → TL Try.prog 28 (Code.at [1, 1, 0, 1, 0, 0] (codeOf Try.f53)) ⟨[(2, .ptr b2_0 0), (3, .ptr b3_0 0), (8, .sl flx0 4 (x0.map (Arr4.dc .u64))), (9, .int .i64 x9_0_3), (10, .int .i64 x10_0_4)], [.box b2_0 33 (Arr4.oc .u64 y2_0_0), .box b3_0 33 (Arr4.oc .u64 y3_0_1)]⟩ (bset_Or_qb0x111 r)

theorem bset_Or_l1_T {r : Arr4} (K : Nat) (go0 : (List Arr4) → Int → Int → Arr4 → Arr4 → Option Arr4) (hgo0 : bset_Or_l0_H r go0) : ∀ (k : Nat), ∀ (x0 : List Arr4) (x9_0_3 : Int) (x10_1_4 : Int) (x14_1_5 : Arr4) (x15_1_6 : Int) (y2_0_0 : Arr4) (y3_1_1 : Arr4) (flx0 : Bool) (b2_1 : Nat) (b3_1 : Nat), bset_Or_l1 K go0 k x0 x9_0_3 x10_1_4 x14_1_5 x15_1_6 y2_0_0 y3_1_1 = some r → TL Try.prog 28 (Code.at [1, 1, 0, 1, 0, 0, 1, 1, 0, 0, 1, 1, 0, 0] (codeOf Try.f53)) ⟨[(2, .ptr b2_1 0), (3, .ptr b3_1 0), (8, .sl flx0 4 (x0.map (Arr4.dc .u64))), (9, .int .i64 x9_0_3), (10, .int .i64 x10_1_4), (14, .agg (Arr4.dc .u64 x14_1_5)), (15, .int .i64 x15_1_6)], [.box b2_1 33 (Arr4.oc .u64 y2_0_0), .box b3_1 33 (Arr4.oc .u64 y3_1_1)]⟩ (bset_Or_qb2_1_0x110100111 r) := by
  intro k
  induction k with
  | zero =>
    intro x0 x9_0_3 x10_1_4 x14_1_5 x15_1_6 y2_0_0 y3_1_1 flx0 b2_1 b3_1 h
    cases (show (none : Option Arr4) = some r from h)
  | succ k ih =>
    intro x0 x9_0_3 x10_1_4 x14_1_5 x15_1_6 y2_0_0 y3_1_1 flx0 b2_1 b3_1 h
    rw [bset_Or_l1] at h
    refine TL.round ?_
    refine T.seq ?_
    refine T.regionL ?_
    refine sp rfl (OpT.int2 rfl rfl (dl rfl rfl) rfl rfl ?_)
    refine TL'.nil (thenS_normal ?_)
    refine T.seq ?_
    rcases bif_some h with ⟨c_97, h⟩ | ⟨c_97, h⟩
    · refine T.condT rfl c_97 ?_
      refine T.skip (thenS_normal ?_)
      refine T.seq ?_
      refine T.block ?_
      refine T.seq ?_
      refine T.regionL ?_
      refine mv rfl rfl rfl rfl rfl ?_
      obtain ⟨g_98, h⟩ := ck_some h
      refine sp rfl (OpT.indexArr rfl (dl rfl rfl) Try.underlying33 Try.underlying31 rfl i31 rfl rfl g_98.1 g_98.2 (Arr4.dc_get (a := x14_1_5) (k := .u64) g_98.1 g_98.2) ?_)
      refine asg rfl rfl rfl rfl rfl ?_
      refine asg rfl rfl rfl rfl rfl ?_
      refine TL'.nil (thenS_normal ?_)
      refine T.regionL ?_
      refine mv rfl rfl rfl rfl rfl ?_
      refine sp rfl (OpT.indexPtr rfl (dl rfl rfl) Try.underlying33 i31 rfl rfl g_98.1 g_98.2 ?_)
      refine sp rfl (OpT.loadBox (i := 1) rfl (dl rfl rfl) Try.underlying31 rfl rfl rfl (Arr4.oc_get (k := .u64) (a := y3_1_1) (pre := []) (post := []) g_98.1 g_98.2) ?_)
      refine mv rfl rfl rfl rfl rfl ?_
      refine sp rfl (OpT.int2 rfl rfl (dl rfl rfl) rfl rfl ?_)
      refine sp rfl (OpT.indexPtr rfl (dl rfl rfl) Try.underlying33 i31 rfl rfl g_98.1 g_98.2 ?_)
      refine sp rfl (OpT.storeTo (i := 1) (cells' := (Arr4.oc .u64 (Arr4.set y3_1_1 x15_1_6 (bits .or .u64 (Arr4.get y3_1_1 x15_1_6) (Arr4.get x14_1_5 x15_1_6))))) rfl rfl i31 rfl rfl rfl (Arr4.oc_lt (k := .u64) (a := y3_1_1) (pre := []) (post := []) g_98.1 g_98.2) (Arr4.oc_set (k := .u64) (a := y3_1_1) (pre := []) (post := []) g_98.1 g_98.2) ?_)
      refine TL'.nil (inBlock_normal (thenS_normal ?_))
      refine T.regionL ?_
      refine sp rfl (OpT.int2 rfl rfl (dl rfl rfl) rfl rfl ?_)
      refine mv rfl rfl rfl rfl rfl ?_
      refine TL'.nil (thenS_normal ?_)
      refine TL.by_turn ?_ (ih x0 x9_0_3 x10_1_4 x14_1_5 (IntKind.i64.wrap (x15_1_6 + (1 : Int))) y2_0_0 (Arr4.set y3_1_1 x15_1_6 (bits .or .u64 (Arr4.get y3_1_1 x15_1_6) (Arr4.get x14_1_5 x15_1_6))) flx0 b2_1 b3_1 h)
      exact Turn.rp (.cons rfl (.cons rfl (.cons rfl (.cons rfl (.cons rfl (.cons rfl (.cons rfl (.nil _)))))))) (.c .z (.c .z (.n _)))
    · refine T.condF rfl c_97 ?_
      refine T.exit (thenS_exit (thenS_exit (inBlock_exit (inBlock_normal (thenS_normal ?_)))))
      refine T.regionL ?_
      refine sp rfl (OpT.int2 rfl rfl (dl rfl rfl) rfl rfl ?_)
      refine mv rfl rfl rfl rfl rfl ?_
      refine TL'.nil (thenS_normal ?_)
      refine TL.by_turn ?_ (hgo0 x0 x9_0_3 (IntKind.i64.wrap (x10_1_4 + (1 : Int))) y2_0_0 y3_1_1 flx0 b2_1 b3_1 h)
      exact Turn.rp (.cons rfl (.cons rfl (.cons rfl (.cons rfl (.cons rfl (.nil _)))))) (.c .z (.c .z (.n _)))

theorem bset_Or_l0_T {r : Arr4} (K : Nat) : ∀ (k : Nat), ∀ (x0 : List Arr4) (x9_0_3 : Int) (x10_0_4 : Int) (y2_0_0 : Arr4) (y3_0_1 : Arr4) (flx0 : Bool) (b2_0 : Nat) (b3_0 : Nat), bset_Or_l0 K k x0 x9_0_3 x10_0_4 y2_0_0 y3_0_1 = some r → TL Try.prog 28 (Code.at [1, 1, 0, 1, 0, 0] (codeOf Try.f53)) ⟨[(2, .ptr b2_0 0), (3, .ptr b3_0 0), (8, .sl flx0 4 (x0.map (Arr4.dc .u64))), (9, .int .i64 x9_0_3), (10, .int .i64 x10_0_4)], [.box b2_0 33 (Arr4.oc .u64 y2_0_0), .box b3_0 33 (Arr4.oc .u64 y3_0_1)]⟩ (bset_Or_qb0x111 r) := by
  intro k
  induction k with
  | zero =>
    intro x0 x9_0_3 x10_0_4 y2_0_0 y3_0_1 flx0 b2_0 b3_0 h
    cases (show (none : Option Arr4) = some r from h)
  | succ k ih =>
    intro x0 x9_0_3 x10_0_4 y2_0_0 y3_0_1 flx0 b2_0 b3_0 h
    rw [bset_Or_l0] at h
    refine TL.round ?_
    refine T.seq ?_
    refine T.regionL ?_
    refine sp rfl (OpT.int2 rfl rfl (dl rfl rfl) rfl rfl ?_)
    refine TL'.nil (thenS_normal ?_)
    refine T.seq ?_
    rcases bif_some h with ⟨c_93, h⟩ | ⟨c_93, h⟩
    · refine T.condT rfl c_93 ?_
      refine T.skip (thenS_normal ?_)
      refine T.seq ?_
      refine T.block ?_
      refine T.seq ?_
      refine T.regionL ?_
      obtain ⟨v_94, e_95, h⟩ := bind_some h
      refine sp rfl (OpT.indexSlM (xs := x0) (f := (Arr4.dc .u64)) (v := v_94) rfl (dl rfl rfl) Try.underlying77 i33 rfl rfl e_95 ?_)
      refine sp rfl (OpT.loadRefAgg rfl (dl rfl rfl) Try.underlying33 rfl i33 rfl (Nat.le_of_ble_eq_true rfl) ?_)
      refine sp rfl (OpT.alloc' rfl (dl rfl rfl) i33 rfl (fun b_96 => ?_))
      refine sp rfl (OpT.storeAggTo (i := 0) (cells' := (Arr4.oc .u64 v_94)) rfl rfl i33 rfl rfl rfl rfl (Nat.le_of_ble_eq_true rfl) rfl ?_)
      refine TL'.nil (thenS_normal ?_)
      refine T.seq ?_
      refine T.regionL ?_
      refine sp rfl (OpT.loadBoxAgg (i := 0) (l := (Arr4.dc .u64 v_94)) rfl (dl rfl rfl) Try.underlying33 rfl i33 rfl rfl rfl rfl ?_)
      refine mv rfl rfl rfl rfl rfl ?_
      refine TL'.nil (thenS_normal ?_)
      refine T.block ?_
      refine T.loop ?_
      refine TL.by_turn ?_ (bset_Or_l1_T K (bset_Or_l0 K k) ih K x0 x9_0_3 x10_0_4 v_94 (0 : Int) y2_0_0 y3_0_1 flx0 b2_0 b3_0 h)
      exact Turn.rp (.cons rfl (.cons rfl (.cons rfl (.cons rfl (.cons rfl (.cons rfl (.cons rfl (.nil _)))))))) (.c (.s .z) (.c (.s .z) (.n _)))
    · refine T.condF rfl c_93 ?_
      refine T.exit (thenS_exit (thenS_exit (inBlock_exit (thenS_normal ?_))))
      refine T.seq ?_
      refine T.regionL ?_
      refine sp rfl (OpT.loadBoxAgg (i := 1) (l := (Arr4.dc .u64 y3_0_1)) rfl (dl rfl rfl) Try.underlying33 rfl i33 rfl rfl rfl rfl ?_)
      refine sp rfl (OpT.storeAggTo (i := 0) (cells' := (Arr4.oc .u64 y3_0_1)) rfl rfl i33 rfl rfl rfl rfl (Nat.le_of_ble_eq_true rfl) rfl ?_)
      refine TL'.nil (thenS_normal ?_)
      refine T.ret ?_
      exact Fin.done (.cons _ _ _ _ (.cellAgg 2 33 _ 0 0 33 _ (Arr4.dc .u64 y3_0_1) _ _ 4 _ rfl rfl rfl rfl Try.underlying33 rfl i33) .nil) (by cases h; exact ⟨rfl, rfl⟩)

theorem bset_Or_T (K : Nat) {x0 : List Arr4} {flx0 : Bool} {r : Arr4} (h : bset_Or K x0 = some r) : CallR Try.prog 53 [.sl flx0 4 (x0.map (Arr4.dc .u64))] [] (.agg (Arr4.dc .u64 r)) := by
  refine CallT.intro Try.func53 rfl (Nat.le_of_ble_eq_true rfl) ?_
  show T Try.prog 28 (Code.at [] (codeOf Try.f53)) ⟨paramSlots 0 [.sl flx0 4 (x0.map (Arr4.dc .u64))], []⟩ (bset_Or_q r)
  unfold bset_Or at h
  refine T.seq ?_
  refine T.regionL ?_
  refine sp rfl (OpT.alloc' rfl (dl rfl rfl) i33 rfl (fun b_91 => ?_))
  refine TL'.nil (thenS_normal ?_)
  refine T.seq ?_
  refine T.regionL ?_
  refine sp rfl (OpT.alloc' rfl (dl rfl rfl) i33 rfl (fun b_92 => ?_))
  refine TL'.nil (thenS_normal ?_)
  refine T.seq ?_
  refine T.seq ?_
  refine T.regionL ?_
  refine mv rfl rfl rfl rfl rfl ?_
  refine sp rfl (OpT.lenSlM (xs := x0) (f := (Arr4.dc .u64)) rfl (dl rfl rfl) Try.underlying77 rfl ?_)
  refine mv rfl rfl rfl rfl rfl ?_
  refine TL'.nil (thenS_normal ?_)
  refine T.block ?_
  refine T.loop ?_
  refine TL.by_turn ?_ (bset_Or_l0_T K K x0 (x0.length : Int) (0 : Int) (Arr4.mk 0 0 0 0) (Arr4.mk 0 0 0 0) flx0 b_91 b_92 h)
  exact Turn.rp (.cons rfl (.cons rfl (.cons rfl (.cons rfl (.cons rfl (.nil _)))))) (.c (.s .z) (.c .z (.n _)))

abbrev syntax_reader_class_q (bx0 : Nat) (r : Arr4 × syntax_parser) : Exit → St → Prop := retS Try.prog Try.f43 (fun y t => ∃ γ : Nat → Value, y = (.agg (Arr4.dc .u64 r.1)) ∧ t = [.box bx0 47 [.d (.str r.2.reader.s), .d (.int .i64 r.2.reader.at_), .d (.int .i64 r.2.reader.where_), .d (.int .i64 r.2.reader.e), .d (.ex (γ 0)), .d (.int .i64 r.2.deep)], .arrA (γ 0) 36 9 (r.2.nodes.map c_api_Node)])

abbrev syntax_reader_class_qs11111 (bx0 : Nat) (r : Arr4 × syntax_parser) : Exit → St → Prop := thenS (fun s' => T Try.prog 64 (Code.at [1, 1, 1, 1, 1] (codeOf Try.f43)) s' ((syntax_reader_class_q bx0 r))) ((syntax_reader_class_q bx0 r))

abbrev syntax_reader_class_qb0x11111 (bx0 : Nat) (r : Arr4 × syntax_parser) : Exit → St → Prop := inBlockS 0 ((syntax_reader_class_qs11111 bx0 r))

abbrev syntax_reader_class_ql1111010 (bx0 : Nat) (r : Arr4 × syntax_parser) : Exit → St → Prop := thenS (fun s' => TL Try.prog 64 (Code.at [1, 1, 1, 1, 0, 1, 0, 0] (codeOf Try.f43)) s' ((syntax_reader_class_qb0x11111 bx0 r))) ((syntax_reader_class_qb0x11111 bx0 r))

abbrev syntax_reader_class_qs1111010011 (bx0 : Nat) (r : Arr4 × syntax_parser) : Exit → St → Prop := thenS (fun s' => T Try.prog 64 (Code.at [1, 1, 1, 1, 0, 1, 0, 0, 1, 1] (codeOf Try.f43)) s' ((syntax_reader_class_ql1111010 bx0 r))) ((syntax_reader_class_ql1111010 bx0 r))

abbrev syntax_reader_class_qb1_0x1111010011 (bx0 : Nat) (r : Arr4 × syntax_parser) : Exit → St → Prop := inBlockS 1 ((syntax_reader_class_qs1111010011 bx0 r))

abbrev syntax_reader_class_qs111101001 (bx0 : Nat) (r : Arr4 × syntax_parser) : Exit → St → Prop := thenS (fun s' => T Try.prog 64 (Code.at [1, 1, 1, 1, 0, 1, 0, 0, 1] (codeOf Try.f43)) s' ((syntax_reader_class_ql1111010 bx0 r))) ((syntax_reader_class_ql1111010 bx0 r))

abbrev syntax_reader_class_l0_H (bx0 : Nat) (r : Arr4 × syntax_parser) (go : Bool → Bool → ByteArray → Int → Int → Int → Int → (List api_Node) → Arr4 → Arr4 → Option (Arr4 × syntax_parser)) : Prop := ∀ (x3_0_7 : Bool) (x5_0_9 : Bool) (y0_0_0 : ByteArray) (y0_0_1 : Int) (y0_0_2 : Int) (y0_0_3 : Int) (y0_0_5 : Int) (y0_0_4 : List api_Node) (y2_0_6 : Arr4) (y4_0_8 : Arr4) (w0_0 : Value) (b2_0 : Nat) (b4_0 : Nat), go x3_0_7 x5_0_9 y0_0_0 y0_0_1 y0_0_2 y0_0_3 y0_0_5 y0_0_4 y2_0_6 y4_0_8 = some r → TL Try.prog 64 (Code.at [1, 1, 1, 1, 0, 1, 0, 0] (codeOf Try.f43)) ⟨[(0, .ptr bx0 (0 + 0)), (2, .ptr b2_0 0), (3, .bool x3_0_7), (4, .ptr b4_0 0), (5, .bool x5_0_9)], [.box bx0 47 [.d (.str y0_0_0), .d (.int .i64 y0_0_1), .d (.int .i64 y0_0_2), .d (.int .i64 y0_0_3), .d (.ex w0_0), .d (.int .i64 y0_0_5)], .arrA w0_0 36 9 (y0_0_4.map c_api_Node), .box b2_0 33 (Arr4.oc .u64 y2_0_6), .box b4_0 33 (Arr4.oc .u64 y4_0_8)]⟩ (syntax_reader_class_qb0x11111 bx0 r)

theorem syntax_reader_class_j5_T {r : Arr4 × syntax_parser} (K : Nat) (bx0 : Nat) (go0 : Bool → Bool → ByteArray → Int → Int → Int → Int → (List api_Node) → Arr4 → Arr4 → Option (Arr4 × syntax_parser)) (hgo0 : syntax_reader_class_l0_H bx0 r go0) (x3_0_7 : Bool) (x6_5_9 : Int) (x7_5_10 : Int) (x19_5_11 : Bool) (x20_5_12 : Bool) (x24_5_13 : Bool) (y0_5_0 : ByteArray) (y0_5_1 : Int) (y0_5_2 : Int) (y0_5_3 : Int) (y0_5_5 : Int) (y0_5_4 : List api_Node) (y2_0_6 : Arr4) (y4_0_8 : Arr4) (w0_5 : Value) (b2_5 : Nat) (b4_5 : Nat) (h : syntax_reader_class_j5 K go0 x3_0_7 x6_5_9 x7_5_10 x19_5_11 x20_5_12 x24_5_13 y0_5_0 y0_5_1 y0_5_2 y0_5_3 y0_5_5 y0_5_4 y2_0_6 y4_0_8 = some r) : T Try.prog 64 (Code.at [1, 1, 1, 1, 0, 1, 0, 0, 1, 0, 0, 1, 1, 1] (codeOf Try.f43)) ⟨[(0, .ptr bx0 (0 + 0)), (2, .ptr b2_5 0), (3, .bool x3_0_7), (4, .ptr b4_5 0), (6, .int .u8 x6_5_9), (7, .int .u8 x7_5_10), (19, .bool x19_5_11), (20, .bool x20_5_12), (24, .bool x24_5_13)], [.box bx0 47 [.d (.str y0_5_0), .d (.int .i64 y0_5_1), .d (.int .i64 y0_5_2), .d (.int .i64 y0_5_3), .d (.ex w0_5), .d (.int .i64 y0_5_5)], .arrA w0_5 36 9 (y0_5_4.map c_api_Node), .box b2_5 33 (Arr4.oc .u64 y2_0_6), .box b4_5 33 (Arr4.oc .u64 y4_0_8)]⟩ (syntax_reader_class_qb1_0x1111010011 bx0 r) := by
  unfold syntax_reader_class_j5 at h
  refine DG.start ?_
  refine DG.step (c := ⟨some 43, .agg (Arr4.dc .u64 y4_0_8), [(4, .ptr b4_5 0)], [(3, .box b4_5 33 (Arr4.oc .u64 y4_0_8))], []⟩) (fun t hm => One.step rfl (.free rfl) (OpT.loadBoxAgg (i := 3) (l := (Arr4.dc .u64 y4_0_8)) rfl (dl rfl rfl) Try.underlying33 rfl i33 hm.s0 hm.o0 rfl rfl rfl)) (Ct.met_of rfl rfl) ?_
  refine DG.mv rfl rfl rfl rfl rfl rfl ?_
  refine DG.mv rfl rfl rfl rfl rfl rfl ?_
  obtain ⟨v_584, e_585, h⟩ := bind_some h
  refine DG.step (c := ⟨some 46, .agg (Arr4.dc .u64 v_584), [(44, .int .u8 x6_5_9), (45, .int .u8 x7_5_10)], [], []⟩) (fun t hm => One.step rfl (.free rfl) (OpT.callPA rfl (dl rfl rfl) Try.func54 rfl rfl (Args.cons hm.s0 (Args.cons hm.s1 Args.nil)) (CallR.nil (bset_Range_T K e_585)) rfl)) (Ct.met_of rfl rfl) ?_
  refine DG.step (c := ⟨some 47, .sl true 4 ([y4_0_8, v_584].map (Arr4.dc .u64)), [(43, .agg (Arr4.dc .u64 y4_0_8)), (46, .agg (Arr4.dc .u64 v_584))], [], []⟩) (fun t hm => One.step rfl (.free rfl) (OpT.buildSlice (elems := ([y4_0_8, v_584] : List Arr4).map (Arr4.dc .u64)) rfl (dl rfl rfl) Try.underlying77 i33 (by decide) rfl (all1 rfl) (parts_cons hm.s0 rfl (parts_cons hm.s1 rfl parts_nil)) rfl rfl (lenAll rfl) (by decide) rfl)) (Ct.met_of rfl rfl) ?_
  obtain ⟨v_586, e_587, h⟩ := bind_some h
  refine DG.step (c := ⟨some 48, .agg (Arr4.dc .u64 v_586), [(47, .sl true 4 ([y4_0_8, v_584].map (Arr4.dc .u64)))], [], []⟩) (fun t hm => One.step rfl (.free rfl) (OpT.callPA rfl (dl rfl rfl) Try.func53 rfl rfl (Args.cons hm.s0 Args.nil) (CallR.nil (bset_Or_T K (flx0 := true) e_587)) rfl)) (Ct.met_of rfl rfl) ?_
  refine DG.step (c := ⟨none, .any, [(4, .ptr b4_5 0), (48, .agg (Arr4.dc .u64 v_586))], [(3, .box b4_5 33 (Arr4.oc .u64 y4_0_8))], [(3, .box b4_5 33 (Arr4.oc .u64 v_586))]⟩) (fun t hm => One.step rfl (.free rfl) (OpT.storeAggTo (i := 3) (cells' := (Arr4.oc .u64 v_586)) rfl rfl i33 hm.s0 hm.s1 rfl hm.o0 (Nat.le_of_ble_eq_true rfl) rfl rfl)) (Ct.met_of rfl rfl) ?_
  refine DG.fin (s1 := ⟨[(0, .ptr bx0 (0 + 0)), (2, .ptr b2_5 0), (3, .bool x3_0_7), (4, .ptr b4_5 0), (19, .bool x19_5_11), (20, .bool x20_5_12), (24, .bool x24_5_13)], [.box bx0 47 [.d (.str y0_5_0), .d (.int .i64 y0_5_1), .d (.int .i64 y0_5_2), .d (.int .i64 y0_5_3), .d (.ex w0_5), .d (.int .i64 y0_5_5)], .arrA w0_5 36 9 (y0_5_4.map c_api_Node), .box b2_5 33 (Arr4.oc .u64 y2_0_6), .box b4_5 33 (Arr4.oc .u64 v_586)]⟩) (ms := [0, 0, 0, 6, 15, 31, 63]) TryMixed rfl (by kernel_rfl) (by kernel_rfl) (by kernel_rfl) (.cons rfl (.cons rfl (.cons rfl (.cons rfl (.cons rfl (.cons rfl (.cons rfl (.nil _)))))))) rfl (fun u hu => (inBlock_normal (thenS_normal (T.by_turn hu ?_))))
  refine T.regionL ?_
  refine asg rfl rfl rfl rfl rfl ?_
  refine TL'.nil (thenS_normal ?_)
  refine TL.by_turn ?_ (hgo0 x3_0_7 false y0_5_0 y0_5_1 y0_5_2 y0_5_3 y0_5_5 y0_5_4 y2_0_6 v_586 w0_5 b2_5 b4_5 h)
  exact Turn.rp (.cons rfl (.cons rfl (.cons rfl (.cons rfl (.cons rfl (.nil _)))))) (.c .z (.c .z (.c .z (.c .z (.n _)))))

theorem syntax_reader_class_j1_T {r : Arr4 × syntax_parser} (K : Nat) (bx0 : Nat) (go0 : Bool → Bool → ByteArray → Int → Int → Int → Int → (List api_Node) → Arr4 → Arr4 → Option (Arr4 × syntax_parser)) (hgo0 : syntax_reader_class_l0_H bx0 r go0) (x3_0_7 : Bool) (x19_1_9 : Bool) (x20_1_10 : Bool) (x24_1_11 : Bool) (y0_1_0 : ByteArray) (y0_1_1 : Int) (y0_1_2 : Int) (y0_1_3 : Int) (y0_1_5 : Int) (y0_1_4 : List api_Node) (y2_0_6 : Arr4) (y4_0_8 : Arr4) (w0_1 : Value) (b2_1 : Nat) (b4_1 : Nat) (h : syntax_reader_class_j1 K go0 x3_0_7 x19_1_9 x20_1_10 x24_1_11 y0_1_0 y0_1_1 y0_1_2 y0_1_3 y0_1_5 y0_1_4 y2_0_6 y4_0_8 = some r) : T Try.prog 64 (Code.at [1, 1, 1, 1, 0, 1, 0, 0, 0, 1, 0] (codeOf Try.f43)) ⟨[(0, .ptr bx0 (0 + 0)), (2, .ptr b2_1 0), (3, .bool x3_0_7), (4, .ptr b4_1 0), (19, .bool x19_1_9), (20, .bool x20_1_10), (24, .bool x24_1_11)], [.box bx0 47 [.d (.str y0_1_0), .d (.int .i64 y0_1_1), .d (.int .i64 y0_1_2), .d (.int .i64 y0_1_3), .d (.ex w0_1), .d (.int .i64 y0_1_5)], .arrA w0_1 36 9 (y0_1_4.map c_api_Node), .box b2_1 33 (Arr4.oc .u64 y2_0_6), .box b4_1 33 (Arr4.oc .u64 y4_0_8)]⟩ (syntax_reader_class_qs111101001 bx0 r) := by
  unfold syntax_reader_class_j1 at h
  refine T.skip (thenS_normal ?_)
  refine T.seq ?_
  refine T.block ?_
  refine T.seq ?_
  refine T.regionL ?_
  refine mv rfl rfl rfl rfl rfl ?_
  obtain ⟨v_565, e_566, h⟩ := bind_some h
  refine sp rfl (OpT.callG (is := [0, 1]) (ph := []) rfl (dl rfl rfl) Try.func52 rfl rfl (Args.cons rfl Args.nil) (syntax_reader_member_T K (bx0 := bx0) (wx0c1 := w0_1) e_566) (.cons rfl rfl (.cons rfl rfl (.nil))) (fun _ => rfl) (fun γ_567 => ?_))
  refine nm (.c (.c (.c (.c (.n))))) ?_
  refine asg rfl rfl rfl rfl rfl ?_
  refine TL'.nil (thenS_normal ?_)
  refine T.seq ?_
  refine T.regionL ?_
  refine mv rfl rfl rfl rfl rfl ?_
  refine asg rfl rfl rfl rfl rfl ?_
  refine TL'.nil (thenS_normal ?_)
  refine T.seq ?_
  refine T.seq ?_
  refine T.regionL ?_
  refine mv rfl rfl rfl rfl rfl ?_
  obtain ⟨v_568, e_569, h⟩ := bind_some h
  refine sp rfl (OpT.callG (is := [0, 1]) (ph := []) rfl (dl rfl rfl) Try.func29 rfl rfl (Args.cons rfl (Args.cons rfl Args.nil)) (syntax_reader_skip_T K (bx0 := bx0) (wx0c1 := (γ_567 0)) e_569) (.cons rfl rfl (.cons rfl rfl (.nil))) (fun _ => rfl) (fun γ_570 => ?_))
  refine nm (.c (.c (.c (.c (.n))))) ?_
  refine TL'.nil (thenS_normal ?_)
  rcases bif_some h with ⟨c_571, h⟩ | ⟨c_571, h⟩
  · refine T.condT rfl c_571 ?_
    refine T.seq ?_
    refine T.regionL ?_
    refine mv rfl rfl rfl rfl rfl ?_
    refine sp rfl (OpT.nilCheck rfl (dl rfl rfl) rfl rfl ?_)
    refine sp rfl (OpT.fieldPtr rfl (dl rfl rfl) Try.underlying45 rfl i3 (by decide) rfl ?_)
    refine sp rfl (OpT.loadBox (i := 0) rfl (dl rfl rfl) Try.underlying3 rfl rfl rfl rfl ?_)
    refine asg rfl rfl rfl rfl rfl ?_
    refine TL'.nil (thenS_normal ?_)
    refine T.seq ?_
    refine T.regionL ?_
    refine mv rfl rfl rfl rfl rfl ?_
    obtain ⟨v_572, e_573, h⟩ := bind_some h
    refine sp rfl (OpT.callG (is := [0, 1]) (ph := []) rfl (dl rfl rfl) Try.func52 rfl rfl (Args.cons rfl Args.nil) (syntax_reader_member_T K (bx0 := bx0) (wx0c1 := (γ_570 0)) e_573) (.cons rfl rfl (.cons rfl rfl (.nil))) (fun _ => rfl) (fun γ_574 => ?_))
    refine nm (.c (.c (.c (.c (.n))))) ?_
    refine asg rfl rfl rfl rfl rfl ?_
    refine TL'.nil (thenS_normal ?_)
    refine T.seq ?_
    refine T.regionL ?_
    refine mv rfl rfl rfl rfl rfl ?_
    refine mv rfl rfl rfl rfl rfl ?_
    refine sp rfl (OpT.int2 rfl rfl (dl rfl rfl) rfl rfl ?_)
    refine TL'.nil (thenS_normal ?_)
    rcases bif_some h with ⟨c_575, h⟩ | ⟨c_575, h⟩
    · refine T.condT rfl c_575 ?_
      refine T.regionL ?_
      refine mv rfl rfl rfl rfl rfl ?_
      refine mv rfl rfl rfl rfl rfl ?_
      obtain ⟨v_576, e_577, h⟩ := bind_some h
      refine sp rfl (OpT.callG (is := [0, 1]) (ph := []) rfl (dl rfl rfl) Try.func20 rfl rfl (Args.cons rfl (Args.cons rfl (Args.cons rfl Args.nil))) (syntax_reader_fail_T K (bx0 := bx0) (wx0c1 := (γ_574 0)) e_577) (.cons rfl rfl (.cons rfl rfl (.nil))) (fun _ => rfl) (fun γ_578 => ?_))
      refine nm (.c (.c (.c (.c (.n))))) ?_
      refine TL'.nil (thenS_normal ?_)
      refine T.by_turn ?_ (syntax_reader_class_j5_T K bx0 go0 hgo0 x3_0_7 v_565.1 v_572.1 x19_1_9 x20_1_10 x24_1_11 v_576.reader.s v_576.reader.at_ v_576.reader.where_ v_576.reader.e v_576.deep v_576.nodes y2_0_6 y4_0_8 (γ_578 0) b2_1 b4_1 h)
      exact Turn.rp (.cons rfl (.cons rfl (.cons rfl (.cons rfl (.cons rfl (.cons rfl (.cons rfl (.cons rfl (.cons rfl (.nil _)))))))))) (.c .z (.c .z (.c .z (.c .z (.n _)))))
    · refine T.condF rfl c_575 ?_
      refine T.skip (thenS_normal ?_)
      refine T.by_turn ?_ (syntax_reader_class_j5_T K bx0 go0 hgo0 x3_0_7 v_565.1 v_572.1 x19_1_9 x20_1_10 x24_1_11 v_572.2.reader.s v_572.2.reader.at_ v_572.2.reader.where_ v_572.2.reader.e v_572.2.deep v_572.2.nodes y2_0_6 y4_0_8 (γ_574 0) b2_1 b4_1 h)
      exact Turn.rp (.cons rfl (.cons rfl (.cons rfl (.cons rfl (.cons rfl (.cons rfl (.cons rfl (.cons rfl (.cons rfl (.nil _)))))))))) (.c .z (.c .z (.c .z (.c .z (.n _)))))
  · refine T.condF rfl c_571 ?_
    refine T.skip (thenS_normal ?_)
    refine T.by_turn ?_ (syntax_reader_class_j5_T K bx0 go0 hgo0 x3_0_7 v_565.1 v_565.1 x19_1_9 x20_1_10 x24_1_11 v_568.2.reader.s v_568.2.reader.at_ v_568.2.reader.where_ v_568.2.reader.e v_568.2.deep v_568.2.nodes y2_0_6 y4_0_8 (γ_570 0) b2_1 b4_1 h)
    exact Turn.rp (.cons rfl (.cons rfl (.cons rfl (.cons rfl (.cons rfl (.cons rfl (.cons rfl (.cons rfl (.cons rfl (.nil _)))))))))) (.c .z (.c .z (.c .z (.c .z (.n _)))))

theorem syntax_reader_class_j4_T {r : Arr4 × syntax_parser} (K : Nat) (bx0 : Nat) (y0_4_0 : ByteArray) (y0_4_1 : Int) (y0_4_2 : Int) (y0_4_3 : Int) (y0_4_5 : Int) (y0_4_4 : List api_Node) (y2_0_6 : Arr4) (y4_3_7 : Arr4) (w0_4 : Value) (b2_4 : Nat) (b4_4 : Nat) (h : syntax_reader_class_j4 K y0_4_0 y0_4_1 y0_4_2 y0_4_3 y0_4_5 y0_4_4 y2_0_6 y4_3_7 = some r) : T Try.prog 64 (Code.at [1, 1, 1, 1, 1, 1, 1] (codeOf Try.f43)) ⟨[(0, .ptr bx0 (0 + 0)), (2, .ptr b2_4 0), (4, .ptr b4_4 0)], [.box bx0 47 [.d (.str y0_4_0), .d (.int .i64 y0_4_1), .d (.int .i64 y0_4_2), .d (.int .i64 y0_4_3), .d (.ex w0_4), .d (.int .i64 y0_4_5)], .arrA w0_4 36 9 (y0_4_4.map c_api_Node), .box b2_4 33 (Arr4.oc .u64 y2_0_6), .box b4_4 33 (Arr4.oc .u64 y4_3_7)]⟩ (syntax_reader_class_q bx0 r) := by
  unfold syntax_reader_class_j4 at h
  refine T.seq ?_
  refine T.regionL ?_
  refine mv rfl rfl rfl rfl rfl ?_
  obtain ⟨v_599, e_600, h⟩ := bind_some h
  refine sp rfl (OpT.callG (is := [0, 1]) (ph := []) rfl (dl rfl rfl) Try.func44 rfl rfl (Args.cons rfl Args.nil) (syntax_reader_next_T K (bx0 := bx0) (wx0c1 := w0_4) e_600) (.cons rfl rfl (.cons rfl rfl (.nil))) (fun _ => rfl) (fun γ_601 => ?_))
  refine nm (.c (.c (.c (.c (.n))))) ?_
  refine TL'.nil (thenS_normal ?_)
  refine T.seq ?_
  refine T.regionL ?_
  refine sp rfl (OpT.loadBoxAgg (i := 3) (l := (Arr4.dc .u64 y4_3_7)) rfl (dl rfl rfl) Try.underlying33 rfl i33 rfl rfl rfl rfl ?_)
  refine sp rfl (OpT.storeAggTo (i := 2) (cells' := (Arr4.oc .u64 y4_3_7)) rfl rfl i33 rfl rfl rfl rfl (Nat.le_of_ble_eq_true rfl) rfl ?_)
  refine TL'.nil (thenS_normal ?_)
  refine T.ret ?_
  exact Fin.doneK (.cons _ _ _ _ (.cellAgg 2 33 _ 0 2 33 _ (Arr4.dc .u64 y4_3_7) _ _ 4 _ rfl rfl rfl rfl Try.underlying33 rfl i33) .nil) (.cons 0 rfl (.cons 0 rfl (.nil _))) (by cases h; exact ⟨gl [γ_601 0], rfl, rfl⟩)

theorem syntax_reader_class_j3_T {r : Arr4 × syntax_parser} (K : Nat) (bx0 : Nat) (y0_3_0 : ByteArray) (y0_3_1 : Int) (y0_3_2 : Int) (y0_3_3 : Int) (y0_3_5 : Int) (y0_3_4 : List api_Node) (y2_0_6 : Arr4) (y4_3_7 : Arr4) (w0_3 : Value) (b2_3 : Nat) (b4_3 : Nat) (h : syntax_reader_class_j3 K y0_3_0 y0_3_1 y0_3_2 y0_3_3 y0_3_5 y0_3_4 y2_0_6 y4_3_7 = some r) : T Try.prog 64 (Code.at [1, 1, 1, 1, 1, 1] (codeOf Try.f43)) ⟨[(0, .ptr bx0 (0 + 0)), (2, .ptr b2_3 0), (4, .ptr b4_3 0)], [.box bx0 47 [.d (.str y0_3_0), .d (.int .i64 y0_3_1), .d (.int .i64 y0_3_2), .d (.int .i64 y0_3_3), .d (.ex w0_3), .d (.int .i64 y0_3_5)], .arrA w0_3 36 9 (y0_3_4.map c_api_Node), .box b2_3 33 (Arr4.oc .u64 y2_0_6), .box b4_3 33 (Arr4.oc .u64 y4_3_7)]⟩ (syntax_reader_class_q bx0 r) := by
  unfold syntax_reader_class_j3 at h
  refine T.seq ?_
  refine T.seq ?_
  refine T.regionL ?_
  refine sp rfl (OpT.loadBoxAgg (i := 3) (l := (Arr4.dc .u64 y4_3_7)) rfl (dl rfl rfl) Try.underlying33 rfl i33 rfl rfl rfl rfl ?_)
  refine sp rfl (OpT.build (l := (Arr4.dc .u64 (Arr4.mk 0 0 0 0))) rfl (dl rfl rfl) (built_arr Try.underlying33 i33 i31) (all1 rfl) rfl rfl ?_)
  refine sp rfl (OpT.intsEql (k := .u64) (xs := [y4_3_7.a0, y4_3_7.a1, y4_3_7.a2, y4_3_7.a3]) (ys := [(Arr4.mk 0 0 0 0).a0, (Arr4.mk 0 0 0 0).a1, (Arr4.mk 0 0 0 0).a2, (Arr4.mk 0 0 0 0).a3]) rfl (dl rfl rfl) Try.underlying33 Try.underlying31 i31 Try.eqGuardType33 rfl rfl rfl rfl rfl rfl (Arr4.same_eq y4_3_7 (Arr4.mk 0 0 0 0)) ?_)
  refine TL'.nil (thenS_normal ?_)
  rcases bif_some h with ⟨c_595, h⟩ | ⟨c_595, h⟩
  · refine T.condT rfl c_595 ?_
    refine T.regionL ?_
    refine mv rfl rfl rfl rfl rfl ?_
    refine mv rfl rfl rfl rfl rfl ?_
    refine sp rfl (OpT.nilCheck rfl (dl rfl rfl) rfl rfl ?_)
    refine sp rfl (OpT.fieldPtr rfl (dl rfl rfl) Try.underlying45 rfl i3 (by decide) rfl ?_)
    refine sp rfl (OpT.loadBox (i := 0) rfl (dl rfl rfl) Try.underlying3 rfl rfl rfl rfl ?_)
    obtain ⟨v_596, e_597, h⟩ := bind_some h
    refine sp rfl (OpT.callG (is := [0, 1]) (ph := []) rfl (dl rfl rfl) Try.func20 rfl rfl (Args.cons rfl (Args.cons rfl (Args.cons rfl Args.nil))) (syntax_reader_fail_T K (bx0 := bx0) (wx0c1 := w0_3) e_597) (.cons rfl rfl (.cons rfl rfl (.nil))) (fun _ => rfl) (fun γ_598 => ?_))
    refine nm (.c (.c (.c (.c (.n))))) ?_
    refine TL'.nil (thenS_normal ?_)
    refine T.by_turn ?_ (syntax_reader_class_j4_T K bx0 v_596.reader.s v_596.reader.at_ v_596.reader.where_ v_596.reader.e v_596.deep v_596.nodes y2_0_6 y4_3_7 (γ_598 0) b2_3 b4_3 h)
    exact Turn.rp (.cons rfl (.cons rfl (.cons rfl (.nil _)))) (.c .z (.c .z (.c .z (.c .z (.n _)))))
  · refine T.condF rfl c_595 ?_
    refine T.skip (thenS_normal ?_)
    refine T.by_turn ?_ (syntax_reader_class_j4_T K bx0 y0_3_0 y0_3_1 y0_3_2 y0_3_3 y0_3_5 y0_3_4 y2_0_6 y4_3_7 w0_3 b2_3 b4_3 h)
    exact Turn.rp (.cons rfl (.cons rfl (.cons rfl (.nil _)))) (.c .z (.c .z (.c .z (.c .z (.n _)))))

theorem syntax_reader_class_j2_T {r : Arr4 × syntax_parser} (K : Nat) (bx0 : Nat) (x3_0_7 : Bool) (y0_2_0 : ByteArray) (y0_2_1 : Int) (y0_2_2 : Int) (y0_2_3 : Int) (y0_2_5 : Int) (y0_2_4 : List api_Node) (y2_0_6 : Arr4) (y4_0_8 : Arr4) (w0_2 : Value) (b2_2 : Nat) (b4_2 : Nat) (h : syntax_reader_class_j2 K x3_0_7 y0_2_0 y0_2_1 y0_2_2 y0_2_3 y0_2_5 y0_2_4 y2_0_6 y4_0_8 = some r) : T Try.prog 64 (Code.at [1, 1, 1, 1, 0, 1, 0, 0, 0, 1, 1] (codeOf Try.f43)) ⟨[(0, .ptr bx0 (0 + 0)), (2, .ptr b2_2 0), (3, .bool x3_0_7), (4, .ptr b4_2 0)], [.box bx0 47 [.d (.str y0_2_0), .d (.int .i64 y0_2_1), .d (.int .i64 y0_2_2), .d (.int .i64 y0_2_3), .d (.ex w0_2), .d (.int .i64 y0_2_5)], .arrA w0_2 36 9 (y0_2_4.map c_api_Node), .box b2_2 33 (Arr4.oc .u64 y2_0_6), .box b4_2 33 (Arr4.oc .u64 y4_0_8)]⟩ (syntax_reader_class_qs111101001 bx0 r) := by
  unfold syntax_reader_class_j2 at h
  refine T.exit (thenS_exit (thenS_exit (inBlock_exit (thenS_normal ?_))))
  refine T.seq ?_
  refine T.seq ?_
  refine T.regionL ?_
  refine mv rfl rfl rfl rfl rfl ?_
  refine TL'.nil (thenS_normal ?_)
  rcases bif_some h with ⟨c_592, h⟩ | ⟨c_592, h⟩
  · refine T.condT rfl c_592 ?_
    refine T.regionL ?_
    refine sp rfl (OpT.loadBoxAgg (i := 3) (l := (Arr4.dc .u64 y4_0_8)) rfl (dl rfl rfl) Try.underlying33 rfl i33 rfl rfl rfl rfl ?_)
    obtain ⟨v_593, e_594, h⟩ := bind_some h
    refine sp rfl (OpT.callPA rfl (dl rfl rfl) Try.func45 rfl rfl (Args.cons rfl Args.nil) (CallR.nil (bset_Not_T K e_594)) ?_)
    refine sp rfl (OpT.storeAggTo (i := 3) (cells' := (Arr4.oc .u64 v_593)) rfl rfl i33 rfl rfl rfl rfl (Nat.le_of_ble_eq_true rfl) rfl ?_)
    refine TL'.nil (thenS_normal ?_)
    refine T.by_turn ?_ (syntax_reader_class_j3_T K bx0 y0_2_0 y0_2_1 y0_2_2 y0_2_3 y0_2_5 y0_2_4 y2_0_6 v_593 w0_2 b2_2 b4_2 h)
    exact Turn.rp (.cons rfl (.cons rfl (.cons rfl (.nil _)))) (.c .z (.c .z (.c .z (.c .z (.n _)))))
  · refine T.condF rfl c_592 ?_
    refine T.skip (thenS_normal ?_)
    refine T.by_turn ?_ (syntax_reader_class_j3_T K bx0 y0_2_0 y0_2_1 y0_2_2 y0_2_3 y0_2_5 y0_2_4 y2_0_6 y4_0_8 w0_2 b2_2 b4_2 h)
    exact Turn.rp (.cons rfl (.cons rfl (.cons rfl (.nil _)))) (.c .z (.c .z (.c .z (.c .z (.n _)))))

theorem syntax_reader_class_l0_T {r : Arr4 × syntax_parser} (K : Nat) (bx0 : Nat) : ∀ (k : Nat), ∀ (x3_0_7 : Bool) (x5_0_9 : Bool) (y0_0_0 : ByteArray) (y0_0_1 : Int) (y0_0_2 : Int) (y0_0_3 : Int) (y0_0_5 : Int) (y0_0_4 : List api_Node) (y2_0_6 : Arr4) (y4_0_8 : Arr4) (w0_0 : Value) (b2_0 : Nat) (b4_0 : Nat), syntax_reader_class_l0 K k x3_0_7 x5_0_9 y0_0_0 y0_0_1 y0_0_2 y0_0_3 y0_0_5 y0_0_4 y2_0_6 y4_0_8 = some r → TL Try.prog 64 (Code.at [1, 1, 1, 1, 0, 1, 0, 0] (codeOf Try.f43)) ⟨[(0, .ptr bx0 (0 + 0)), (2, .ptr b2_0 0), (3, .bool x3_0_7), (4, .ptr b4_0 0), (5, .bool x5_0_9)], [.box bx0 47 [.d (.str y0_0_0), .d (.int .i64 y0_0_1), .d (.int .i64 y0_0_2), .d (.int .i64 y0_0_3), .d (.ex w0_0), .d (.int .i64 y0_0_5)], .arrA w0_0 36 9 (y0_0_4.map c_api_Node), .box b2_0 33 (Arr4.oc .u64 y2_0_6), .box b4_0 33 (Arr4.oc .u64 y4_0_8)]⟩ (syntax_reader_class_qb0x11111 bx0 r) := by
  intro k
  induction k with
  | zero =>
    intro x3_0_7 x5_0_9 y0_0_0 y0_0_1 y0_0_2 y0_0_3 y0_0_5 y0_0_4 y2_0_6 y4_0_8 w0_0 b2_0 b4_0 h
    cases (show (none : Option (Arr4 × syntax_parser)) = some r from h)
  | succ k ih =>
    intro x3_0_7 x5_0_9 y0_0_0 y0_0_1 y0_0_2 y0_0_3 y0_0_5 y0_0_4 y2_0_6 y4_0_8 w0_0 b2_0 b4_0 h
    rw [syntax_reader_class_l0] at h
    refine TL.round ?_
    refine T.seq ?_
    refine T.seq ?_
    refine T.regionL ?_
    refine mv rfl rfl rfl rfl rfl ?_
    refine sp rfl (OpT.nilCheck rfl (dl rfl rfl) rfl rfl ?_)
    refine sp rfl (OpT.fieldPtr rfl (dl rfl rfl) Try.underlying45 rfl i24 (by decide) rfl ?_)
    refine sp rfl (OpT.loadBox (i := 0) rfl (dl rfl rfl) Try.underlying24 rfl rfl rfl rfl ?_)
    refine sp rfl (OpT.int2 rfl rfl (dl rfl rfl) rfl rfl ?_)
    refine mv rfl rfl rfl rfl rfl ?_
    rcases bif_some h with ⟨c_563, h⟩ | ⟨c_563, h⟩
    · refine TL'.step (.on rfl rfl rfl c_563) (OpT.move rfl (dl rfl rfl) rfl ?_)
      refine TL'.step (.on rfl rfl rfl c_563) (OpT.move rfl (dl rfl rfl) rfl ?_)
      rcases bif_some h with ⟨c_564, h⟩ | ⟨c_564, h⟩
      · refine TL'.passU (.off _ _ _ _ rfl rfl rfl c_564) (dl rfl rfl) ?_
        refine TL'.passU (.off _ _ _ _ rfl rfl rfl c_564) (dl rfl rfl) ?_
        refine TL'.passU (.off _ _ _ _ rfl rfl rfl c_564) (dl rfl rfl) ?_
        refine TL'.step (.on rfl rfl rfl c_563) (OpT.pickT rfl (dl rfl rfl) rfl c_564 rfl ?_)
        refine sp rfl (OpT.pickT rfl (dl rfl rfl) rfl c_563 rfl ?_)
        refine TL'.nil (thenS_normal ?_)
        refine T.condT rfl rfl ?_
        refine T.by_turn ?_ (syntax_reader_class_j1_T K bx0 (syntax_reader_class_l0 K k) ih x3_0_7 x5_0_9 x5_0_9 true y0_0_0 y0_0_1 y0_0_2 y0_0_3 y0_0_5 y0_0_4 y2_0_6 y4_0_8 w0_0 b2_0 b4_0 h)
        exact Turn.rp (.cons rfl (.cons rfl (.cons rfl (.cons rfl (.cons rfl (.cons rfl (.cons rfl (.nil _)))))))) (.c .z (.c .z (.c .z (.c .z (.n _)))))
      · refine TL'.step (.on rfl rfl rfl c_564) (OpT.move rfl (dl rfl rfl) rfl ?_)
        obtain ⟨v_588, e_589, h⟩ := bind_some h
        refine TL'.step (.on rfl rfl rfl c_564) (OpT.callG (is := [0, 1]) (ph := []) rfl (dl rfl rfl) Try.func35 rfl rfl (Args.cons rfl (Args.cons rfl Args.nil)) (syntax_reader_is_T K (bx0 := bx0) (wx0c1 := w0_0) e_589) (.cons rfl rfl (.cons rfl rfl (.nil))) (fun _ => rfl) (fun γ_590 => ?_))
        refine nm (.c (.c (.c (.c (.n))))) ?_
        refine TL'.step (.on rfl rfl rfl c_564) (OpT.not rfl (dl rfl rfl) rfl ?_)
        refine TL'.step (.on rfl rfl rfl c_563) (OpT.pickF rfl (dl rfl rfl) rfl c_564 rfl ?_)
        refine sp rfl (OpT.pickT rfl (dl rfl rfl) rfl c_563 rfl ?_)
        refine TL'.nil (thenS_normal ?_)
        rcases bif_some h with ⟨c_591, h⟩ | ⟨c_591, h⟩
        · refine T.condT rfl c_591 ?_
          refine T.by_turn ?_ (syntax_reader_class_j1_T K bx0 (syntax_reader_class_l0 K k) ih x3_0_7 x5_0_9 x5_0_9 (!v_588) ((syntax_parser.mk (syntax_reader.mk y0_0_0 y0_0_1 y0_0_2 y0_0_3) y0_0_4 y0_0_5).reader.s) ((syntax_parser.mk (syntax_reader.mk y0_0_0 y0_0_1 y0_0_2 y0_0_3) y0_0_4 y0_0_5).reader.at_) ((syntax_parser.mk (syntax_reader.mk y0_0_0 y0_0_1 y0_0_2 y0_0_3) y0_0_4 y0_0_5).reader.where_) ((syntax_parser.mk (syntax_reader.mk y0_0_0 y0_0_1 y0_0_2 y0_0_3) y0_0_4 y0_0_5).reader.e) ((syntax_parser.mk (syntax_reader.mk y0_0_0 y0_0_1 y0_0_2 y0_0_3) y0_0_4 y0_0_5).deep) ((syntax_parser.mk (syntax_reader.mk y0_0_0 y0_0_1 y0_0_2 y0_0_3) y0_0_4 y0_0_5).nodes) y2_0_6 y4_0_8 (γ_590 0) b2_0 b4_0 h)
          exact Turn.rp (.cons rfl (.cons rfl (.cons rfl (.cons rfl (.cons rfl (.cons rfl (.cons rfl (.nil _)))))))) (.c .z (.c .z (.c .z (.c .z (.n _)))))
        · refine T.condF rfl c_591 ?_
          refine T.by_turn ?_ (syntax_reader_class_j2_T K bx0 x3_0_7 ((syntax_parser.mk (syntax_reader.mk y0_0_0 y0_0_1 y0_0_2 y0_0_3) y0_0_4 y0_0_5).reader.s) ((syntax_parser.mk (syntax_reader.mk y0_0_0 y0_0_1 y0_0_2 y0_0_3) y0_0_4 y0_0_5).reader.at_) ((syntax_parser.mk (syntax_reader.mk y0_0_0 y0_0_1 y0_0_2 y0_0_3) y0_0_4 y0_0_5).reader.where_) ((syntax_parser.mk (syntax_reader.mk y0_0_0 y0_0_1 y0_0_2 y0_0_3) y0_0_4 y0_0_5).reader.e) ((syntax_parser.mk (syntax_reader.mk y0_0_0 y0_0_1 y0_0_2 y0_0_3) y0_0_4 y0_0_5).deep) ((syntax_parser.mk (syntax_reader.mk y0_0_0 y0_0_1 y0_0_2 y0_0_3) y0_0_4 y0_0_5).nodes) y2_0_6 y4_0_8 (γ_590 0) b2_0 b4_0 h)
          exact Turn.rp (.cons rfl (.cons rfl (.cons rfl (.cons rfl (.nil _))))) (.c .z (.c .z (.c .z (.c .z (.n _)))))
    · refine TL'.passU (.off _ _ _ _ rfl rfl rfl c_563) (dl rfl rfl) ?_
      refine TL'.passU (.off _ _ _ _ rfl rfl rfl c_563) (dl rfl rfl) ?_
      refine TL'.passU (.gone _ _ _ rfl rfl rfl) (dl rfl rfl) ?_
      refine TL'.passU (.gone _ _ _ rfl rfl rfl) (dl rfl rfl) ?_
      refine TL'.passU (.gone _ _ _ rfl rfl rfl) (dl rfl rfl) ?_
      refine TL'.passU (.off _ _ _ _ rfl rfl rfl c_563) (dl rfl rfl) ?_
      refine sp rfl (OpT.pickF rfl (dl rfl rfl) rfl c_563 rfl ?_)
      refine TL'.nil (thenS_normal ?_)
      refine T.condF rfl rfl ?_
      refine T.by_turn ?_ (syntax_reader_class_j2_T K bx0 x3_0_7 y0_0_0 y0_0_1 y0_0_2 y0_0_3 y0_0_5 y0_0_4 y2_0_6 y4_0_8 w0_0 b2_0 b4_0 h)
      exact Turn.rp (.cons rfl (.cons rfl (.cons rfl (.cons rfl (.nil _))))) (.c .z (.c .z (.c .z (.c .z (.n _)))))

theorem syntax_reader_class_T (K : Nat) {x0 : syntax_parser} {bx0 : Nat} {wx0c1 : Value} {r : Arr4 × syntax_parser} (h : syntax_reader_class K x0 = some r) : CallG Try.prog 43 [.ptr bx0 (0 + 0)] [.box bx0 47 [.d (.str x0.reader.s), .d (.int .i64 x0.reader.at_), .d (.int .i64 x0.reader.where_), .d (.int .i64 x0.reader.e), .d (.ex wx0c1), .d (.int .i64 x0.deep)], .arrA wx0c1 36 9 (x0.nodes.map c_api_Node)] (fun γ => (.agg (Arr4.dc .u64 r.1))) (fun γ => [.box bx0 47 [.d (.str r.2.reader.s), .d (.int .i64 r.2.reader.at_), .d (.int .i64 r.2.reader.where_), .d (.int .i64 r.2.reader.e), .d (.ex (γ 0)), .d (.int .i64 r.2.deep)], .arrA (γ 0) 36 9 (r.2.nodes.map c_api_Node)]) := by
  refine CallT.intro Try.func43 rfl (Nat.le_of_ble_eq_true rfl) ?_
  show T Try.prog 64 (Code.at [] (codeOf Try.f43)) ⟨paramSlots 0 [.ptr bx0 (0 + 0)], [.box bx0 47 [.d (.str x0.reader.s), .d (.int .i64 x0.reader.at_), .d (.int .i64 x0.reader.where_), .d (.int .i64 x0.reader.e), .d (.ex wx0c1), .d (.int .i64 x0.deep)], .arrA wx0c1 36 9 (x0.nodes.map c_api_Node)]⟩ (syntax_reader_class_q bx0 r)
  unfold syntax_reader_class at h
  refine T.seq ?_
  refine T.regionL ?_
  refine sp rfl (OpT.alloc' rfl (dl rfl rfl) i33 rfl (fun b_555 => ?_))
  refine TL'.nil (thenS_normal ?_)
  refine T.seq ?_
  refine T.regionL ?_
  refine mv rfl rfl rfl rfl rfl ?_
  obtain ⟨v_556, e_557, h⟩ := bind_some h
  refine sp rfl (OpT.callG (is := [1, 2]) (ph := []) rfl (dl rfl rfl) Try.func44 rfl rfl (Args.cons rfl Args.nil) (syntax_reader_next_T K (bx0 := bx0) (wx0c1 := wx0c1) e_557) (.cons rfl rfl (.cons rfl rfl (.nil))) (fun _ => rfl) (fun γ_558 => ?_))
  refine nm (.c (.c (.c (.n)))) ?_
  refine TL'.nil (thenS_normal ?_)
  refine T.seq ?_
  refine T.regionL ?_
  refine mv rfl rfl rfl rfl rfl ?_
  obtain ⟨v_559, e_560, h⟩ := bind_some h
  refine sp rfl (OpT.callG (is := [1, 2]) (ph := []) rfl (dl rfl rfl) Try.func29 rfl rfl (Args.cons rfl (Args.cons rfl Args.nil)) (syntax_reader_skip_T K (bx0 := bx0) (wx0c1 := (γ_558 0)) e_560) (.cons rfl rfl (.cons rfl rfl (.nil))) (fun _ => rfl) (fun γ_561 => ?_))
  refine nm (.c (.c (.c (.n)))) ?_
  refine asg rfl rfl rfl rfl rfl ?_
  refine TL'.nil (thenS_normal ?_)
  refine T.seq ?_
  refine T.regionL ?_
  refine sp rfl (OpT.alloc' rfl (dl rfl rfl) i33 rfl (fun b_562 => ?_))
  refine TL'.nil (thenS_normal ?_)
  refine T.seq ?_
  refine T.seq ?_
  refine T.regionL ?_
  refine asg rfl rfl rfl rfl rfl ?_
  refine TL'.nil (thenS_normal ?_)
  refine T.block ?_
  refine T.loop ?_
  refine TL.by_turn ?_ (syntax_reader_class_l0_T K bx0 K v_559.1 true v_559.2.reader.s v_559.2.reader.at_ v_559.2.reader.where_ v_559.2.reader.e v_559.2.deep v_559.2.nodes (Arr4.mk 0 0 0 0) (Arr4.mk 0 0 0 0) (γ_561 0) b_555 b_562 h)
  exact Turn.rp (.cons rfl (.cons rfl (.cons rfl (.cons rfl (.cons rfl (.nil _)))))) (.c (.s (.s .z)) (.c (.s (.s .z)) (.c (.s .z) (.c .z (.n _)))))

abbrev syntax_parser_group_q (bx0 : Nat) (r : Int × syntax_parser) : Exit → St → Prop := retS Try.prog Try.f41 (fun y t => ∃ γ : Nat → Value, y = (.int .i64 r.1) ∧ t = [.box bx0 47 [.d (.str r.2.reader.s), .d (.int .i64 r.2.reader.at_), .d (.int .i64 r.2.reader.where_), .d (.int .i64 r.2.reader.e), .d (.ex (γ 0)), .d (.int .i64 r.2.deep)], .arrA (γ 0) 36 9 (r.2.nodes.map c_api_Node)])

theorem syntax_parser_group_T (K : Nat) (rec_syntax_parser_alternative : syntax_parser → Option (Int × syntax_parser)) (hrec_syntax_parser_alternative : syntax_parser_alternative_S rec_syntax_parser_alternative) {x0 : syntax_parser} {bx0 : Nat} {wx0c1 : Value} {r : Int × syntax_parser} (h : syntax_parser_group K rec_syntax_parser_alternative x0 = some r) : CallG Try.prog 41 [.ptr bx0 0] [.box bx0 47 [.d (.str x0.reader.s), .d (.int .i64 x0.reader.at_), .d (.int .i64 x0.reader.where_), .d (.int .i64 x0.reader.e), .d (.ex wx0c1), .d (.int .i64 x0.deep)], .arrA wx0c1 36 9 (x0.nodes.map c_api_Node)] (fun γ => (.int .i64 r.1)) (fun γ => [.box bx0 47 [.d (.str r.2.reader.s), .d (.int .i64 r.2.reader.at_), .d (.int .i64 r.2.reader.where_), .d (.int .i64 r.2.reader.e), .d (.ex (γ 0)), .d (.int .i64 r.2.deep)], .arrA (γ 0) 36 9 (r.2.nodes.map c_api_Node)]) := by
  refine CallT.intro Try.func41 rfl (Nat.le_of_ble_eq_true rfl) ?_
  show T Try.prog 43 (Code.at [] (codeOf Try.f41)) ⟨paramSlots 0 [.ptr bx0 0], [.box bx0 47 [.d (.str x0.reader.s), .d (.int .i64 x0.reader.at_), .d (.int .i64 x0.reader.where_), .d (.int .i64 x0.reader.e), .d (.ex wx0c1), .d (.int .i64 x0.deep)], .arrA wx0c1 36 9 (x0.nodes.map c_api_Node)]⟩ (syntax_parser_group_q bx0 r)
  unfold syntax_parser_group at h
  refine T.seq ?_
  refine T.regionL ?_
  refine asg rfl rfl rfl rfl rfl ?_
  refine TL'.nil (thenS_normal ?_)
  refine T.seq ?_
  refine T.seq ?_
  refine T.regionL ?_
  refine mv rfl rfl rfl rfl rfl ?_
  refine sp rfl (OpT.nilCheck rfl (dl rfl rfl) rfl rfl ?_)
  refine sp rfl (OpT.fieldPtr rfl (dl rfl rfl) Try.underlying47 rfl i3 (by decide) rfl ?_)
  refine sp rfl (OpT.loadBox (i := 0) rfl (dl rfl rfl) Try.underlying3 rfl rfl rfl rfl ?_)
  refine sp rfl (OpT.int2 rfl rfl (dl rfl rfl) rfl rfl ?_)
  refine TL'.nil (thenS_normal ?_)
  rcases bif_some h with ⟨c_61, h⟩ | ⟨c_61, h⟩
  · refine T.condT rfl c_61 ?_
    refine T.seq ?_
    refine DGG.start ?_
    refine DGG.step (c := fun γ_62 => ⟨some 9, .ptr bx0 0, [(0, .ptr bx0 0)], [], []⟩) [] (fun _ _ _ => rfl) (fun γ_62 t hm => One.step rfl (.free rfl) (OpT.move rfl (dl rfl rfl) hm.s0 ⟨(fun _ => undef, 0), rfl⟩)) (fun γ_62 => Ct.met_of rfl rfl) ?_
    refine DGG.step (c := fun γ_62 => ⟨some 10, .ptr bx0 0, [(9, .ptr bx0 0)], [], []⟩) [] (fun _ _ _ => rfl) (fun γ_62 t hm => One.step rfl (.free rfl) (OpT.nilCheck rfl (dl rfl rfl) hm.s0 rfl ⟨(fun _ => undef, 0), rfl⟩)) (fun γ_62 => Ct.met_of rfl rfl) ?_
    refine DGG.step (c := fun γ_62 => ⟨some 11, .ptr bx0 (0 + 0), [(10, .ptr bx0 0)], [], []⟩) [] (fun _ _ _ => rfl) (fun γ_62 t hm => One.step rfl (.free rfl) (OpT.fieldPtr rfl (dl rfl rfl) Try.underlying47 rfl i45 (by decide) hm.s0 ⟨(fun _ => undef, 0), rfl⟩)) (fun γ_62 => Ct.met_of rfl rfl) ?_
    refine DGG.step (c := fun γ_62 => ⟨some 12, .ptr bx0 0, [(0, .ptr bx0 0)], [], []⟩) [] (fun _ _ _ => rfl) (fun γ_62 t hm => One.step rfl (.free rfl) (OpT.move rfl (dl rfl rfl) hm.s0 ⟨(fun _ => undef, 0), rfl⟩)) (fun γ_62 => Ct.met_of rfl rfl) ?_
    refine DGG.step (c := fun γ_62 => ⟨some 13, .ptr bx0 0, [(12, .ptr bx0 0)], [], []⟩) [] (fun _ _ _ => rfl) (fun γ_62 t hm => One.step rfl (.free rfl) (OpT.nilCheck rfl (dl rfl rfl) hm.s0 rfl ⟨(fun _ => undef, 0), rfl⟩)) (fun γ_62 => Ct.met_of rfl rfl) ?_
    refine DGG.step (c := fun γ_62 => ⟨some 14, .ptr bx0 (0 + 0), [(13, .ptr bx0 0)], [], []⟩) [] (fun _ _ _ => rfl) (fun γ_62 t hm => One.step rfl (.free rfl) (OpT.fieldPtr rfl (dl rfl rfl) Try.underlying47 rfl i45 (by decide) hm.s0 ⟨(fun _ => undef, 0), rfl⟩)) (fun γ_62 => Ct.met_of rfl rfl) ?_
    refine DGG.step (c := fun γ_62 => ⟨some 15, .ptr bx0 (0 + 0 + 1), [(14, .ptr bx0 (0 + 0))], [], []⟩) [] (fun _ _ _ => rfl) (fun γ_62 t hm => One.step rfl (.free rfl) (OpT.fieldPtr rfl (dl rfl rfl) Try.underlying45 rfl i3 (by decide) hm.s0 ⟨(fun _ => undef, 0), rfl⟩)) (fun γ_62 => Ct.met_of rfl rfl) ?_
    refine DGG.step (c := fun γ_62 => ⟨some 16, .int .i64 x0.reader.at_, [(15, .ptr bx0 (0 + 0 + 1))], [(0, .box bx0 47 [.d (.str x0.reader.s), .d (.int .i64 x0.reader.at_), .d (.int .i64 x0.reader.where_), .d (.int .i64 x0.reader.e), .d (.ex wx0c1), .d (.int .i64 x0.deep)])], []⟩) [] (fun _ _ _ => rfl) (fun γ_62 t hm => One.step rfl (.free rfl) (OpT.loadBox (i := 0) rfl (dl rfl rfl) Try.underlying3 rfl hm.s0 hm.o0 rfl ⟨(fun _ => undef, 0), rfl⟩)) (fun γ_62 => Ct.met_of rfl rfl) ?_
    obtain ⟨v_65, e_66, h⟩ := bind_some h
    refine DGG.step (c := fun γ_62 => ⟨some 17, .tup [], [(11, .ptr bx0 (0 + 0)), (16, .int .i64 x0.reader.at_)], [(1, .arrA wx0c1 36 9 (x0.nodes.map c_api_Node)), (0, .box bx0 47 [.d (.str x0.reader.s), .d (.int .i64 x0.reader.at_), .d (.int .i64 x0.reader.where_), .d (.int .i64 x0.reader.e), .d (.ex wx0c1), .d (.int .i64 x0.deep)])], [(0, .box bx0 47 [.d (.str v_65.reader.s), .d (.int .i64 v_65.reader.at_), .d (.int .i64 v_65.reader.where_), .d (.int .i64 v_65.reader.e), .d (.ex ((γ_62 8).1 0)), .d (.int .i64 v_65.deep)]), (1, .arrA ((γ_62 8).1 0) 36 9 (v_65.nodes.map c_api_Node))]⟩) [8] (fun γ_62 γ' h => by simp only [h 8 (by decide)]) (fun γ_62 t hm => One.step rfl (.free rfl) (OpT.callG (is := [0, 1]) (ph := []) rfl (dl rfl rfl) Try.func20 rfl rfl (Args.cons hm.s0 (Args.cons rfl (Args.cons hm.s1 Args.nil))) (syntax_reader_fail_T K (bx0 := bx0) (wx0c1 := wx0c1) e_66) (.cons hm.o1 rfl (.cons hm.o0 rfl (.nil))) (fun _ => rfl) (fun g => ⟨(g, 0), rfl⟩))) (fun γ_62 => Ct.met_of rfl rfl) ?_
    refine DGG.fin (s1 := fun γ_62 => ⟨[], [.box bx0 47 [.d (.str v_65.reader.s), .d (.int .i64 v_65.reader.at_), .d (.int .i64 v_65.reader.where_), .d (.int .i64 v_65.reader.e), .d (.ex ((γ_62 8).1 0)), .d (.int .i64 v_65.deep)], .arrA ((γ_62 8).1 0) 36 9 (v_65.nodes.map c_api_Node)]⟩) (ms := [0, 1, 3, 0, 8, 24, 56, 120, 255]) TryMixed rfl (by kernel_rfl) (by kernel_rfl) (by kernel_rfl) (fun γ_62 => by kernel_rfl) (fun γ_62 => .nil _) (fun _ => rfl) (fun γ_62 u hu => (thenS_normal (T.by_turn hu ?_)))
    refine T.seq ?_
    refine T.regionL ?_
    refine asg rfl rfl rfl rfl rfl ?_
    refine TL'.nil (thenS_normal ?_)
    refine T.ret (thenS_ret ?_)
    exact Fin.doneK (.cons _ _ _ _ (.tmp 2 _ rfl) .nil) (.cons 0 rfl (.cons 0 rfl (.nil _))) (by cases h; exact ⟨gl [(γ_62 8).1 0], rfl, rfl⟩)
  · refine T.condF rfl c_61 ?_
    refine T.skip (thenS_normal ?_)
    refine T.seq ?_
    refine T.regionL ?_
    refine mv rfl rfl rfl rfl rfl ?_
    refine sp rfl (OpT.nilCheck rfl (dl rfl rfl) rfl rfl ?_)
    refine sp rfl (OpT.fieldPtr rfl (dl rfl rfl) Try.underlying47 rfl i45 (by decide) rfl ?_)
    obtain ⟨v_67, e_68, h⟩ := bind_some h
    refine sp rfl (OpT.callG (is := [0, 1]) (ph := []) rfl (dl rfl rfl) Try.func44 rfl rfl (Args.cons rfl Args.nil) (syntax_reader_next_T K (bx0 := bx0) (wx0c1 := wx0c1) e_68) (.cons rfl rfl (.cons rfl rfl (.nil))) (fun _ => rfl) (fun γ_69 => ?_))
    refine nm (.c (.c (.n))) ?_
    refine TL'.nil (thenS_normal ?_)
    refine T.seq ?_
    refine T.regionL ?_
    refine mv rfl rfl rfl rfl rfl ?_
    refine sp rfl (OpT.nilCheck rfl (dl rfl rfl) rfl rfl ?_)
    refine sp rfl (OpT.fieldPtr rfl (dl rfl rfl) Try.underlying47 rfl i3 (by decide) rfl ?_)
    refine sp rfl (OpT.loadBox (i := 0) rfl (dl rfl rfl) Try.underlying3 rfl rfl rfl rfl ?_)
    refine sp rfl (OpT.int2 rfl rfl (dl rfl rfl) rfl rfl ?_)
    refine sp rfl (OpT.nilCheck rfl (dl rfl rfl) rfl rfl ?_)
    refine sp rfl (OpT.fieldPtr rfl (dl rfl rfl) Try.underlying47 rfl i3 (by decide) rfl ?_)
    refine sp rfl (OpT.storeTo (i := 0) (cells' := [.d (.str v_67.2.reader.s), .d (.int .i64 v_67.2.reader.at_), .d (.int .i64 v_67.2.reader.where_), .d (.int .i64 v_67.2.reader.e), .d (.ex (γ_69 0)), .d (.int .i64 (IntKind.i64.wrap (v_67.2.deep + (1 : Int))))]) rfl rfl i3 rfl rfl rfl (Nat.le_of_ble_eq_true rfl) rfl ?_)
    refine TL'.nil (thenS_normal ?_)
    refine T.seq ?_
    refine T.regionL ?_
    refine mv rfl rfl rfl rfl rfl ?_
    obtain ⟨v_70, e_71, h⟩ := bind_some h
    refine sp rfl (OpT.callG (is := [0, 1]) (ph := []) rfl (dl rfl rfl) Try.func18 rfl rfl (Args.cons rfl Args.nil) (hrec_syntax_parser_alternative (syntax_parser.mk v_67.2.reader v_67.2.nodes (IntKind.i64.wrap (v_67.2.deep + (1 : Int)))) bx0 (γ_69 0) _ e_71) (.cons rfl rfl (.cons rfl rfl (.nil))) (fun _ => rfl) (fun γ_72 => ?_))
    refine nm (.c (.c (.n))) ?_
    refine asg rfl rfl rfl rfl rfl ?_
    refine TL'.nil (thenS_normal ?_)
    refine T.seq ?_
    refine T.regionL ?_
    refine mv rfl rfl rfl rfl rfl ?_
    refine sp rfl (OpT.nilCheck rfl (dl rfl rfl) rfl rfl ?_)
    refine sp rfl (OpT.fieldPtr rfl (dl rfl rfl) Try.underlying47 rfl i3 (by decide) rfl ?_)
    refine sp rfl (OpT.loadBox (i := 0) rfl (dl rfl rfl) Try.underlying3 rfl rfl rfl rfl ?_)
    refine sp rfl (OpT.int2 rfl rfl (dl rfl rfl) rfl rfl ?_)
    refine sp rfl (OpT.nilCheck rfl (dl rfl rfl) rfl rfl ?_)
    refine sp rfl (OpT.fieldPtr rfl (dl rfl rfl) Try.underlying47 rfl i3 (by decide) rfl ?_)
    refine sp rfl (OpT.storeTo (i := 0) (cells' := [.d (.str v_70.2.reader.s), .d (.int .i64 v_70.2.reader.at_), .d (.int .i64 v_70.2.reader.where_), .d (.int .i64 v_70.2.reader.e), .d (.ex (γ_72 0)), .d (.int .i64 (IntKind.i64.wrap (v_70.2.deep - (1 : Int))))]) rfl rfl i3 rfl rfl rfl (Nat.le_of_ble_eq_true rfl) rfl ?_)
    refine TL'.nil (thenS_normal ?_)
    refine T.seq ?_
    refine T.regionL ?_
    refine mv rfl rfl rfl rfl rfl ?_
    refine sp rfl (OpT.nilCheck rfl (dl rfl rfl) rfl rfl ?_)
    refine sp rfl (OpT.fieldPtr rfl (dl rfl rfl) Try.underlying47 rfl i45 (by decide) rfl ?_)
    obtain ⟨v_73, e_74, h⟩ := bind_some h
    refine sp rfl (OpT.callG (is := [0, 1]) (ph := []) rfl (dl rfl rfl) Try.func44 rfl rfl (Args.cons rfl Args.nil) (syntax_reader_next_T K (bx0 := bx0) (wx0c1 := (γ_72 0)) e_74) (.cons rfl rfl (.cons rfl rfl (.nil))) (fun _ => rfl) (fun γ_75 => ?_))
    refine nm (.c (.c (.n))) ?_
    refine TL'.nil (thenS_normal ?_)
    refine T.seq ?_
    refine T.regionL ?_
    refine mv rfl rfl rfl rfl rfl ?_
    refine asg rfl rfl rfl rfl rfl ?_
    refine TL'.nil (thenS_normal ?_)
    refine T.ret ?_
    exact Fin.doneK (.cons _ _ _ _ (.tmp 2 _ rfl) .nil) (.cons 0 rfl (.cons 0 rfl (.nil _))) (by cases h; exact ⟨gl [γ_75 0], rfl, rfl⟩)

end Go.Rv

/- Each function computes what its plain text says: printed by a program of ours. -/
import Derived.Test.YtbepeoipaiahgaaRgW1
namespace Go.Rv
open Go.Proofs
set_option maxRecDepth 100000
set_option maxHeartbeats 4000000
set_option linter.unusedVariables false

abbrev syntax_parser_atom_q (bx0 : Nat) (r : Int × syntax_parser) : Exit → St → Prop := retS Try.prog Try.f39 (fun y t => ∃ γ : Nat → Value, y = (.int .i64 r.1) ∧ t = [.box bx0 47 [.d (.str r.2.reader.s), .d (.int .i64 r.2.reader.at_), .d (.int .i64 r.2.reader.where_), .d (.int .i64 r.2.reader.e), .d (.ex (γ 0)), .d (.int .i64 r.2.deep)], .arrA (γ 0) 36 9 (r.2.nodes.map c_api_Node)])

abbrev syntax_parser_atom_qs111 (bx0 : Nat) (r : Int × syntax_parser) : Exit → St → Prop := thenS (fun s' => T Try.prog 96 (Code.at [1, 1, 1] (codeOf Try.f39)) s' ((syntax_parser_atom_q bx0 r))) ((syntax_parser_atom_q bx0 r))

abbrev syntax_parser_atom_qb0x111 (bx0 : Nat) (r : Int × syntax_parser) : Exit → St → Prop := inBlockS 0 ((syntax_parser_atom_qs111 bx0 r))

theorem syntax_parser_atom_j1_T {r : Int × syntax_parser} (K : Nat) (rec_syntax_parser_alternative : syntax_parser → Option (Int × syntax_parser)) (hrec_syntax_parser_alternative : syntax_parser_alternative_S rec_syntax_parser_alternative) (bx0 : Nat) (x0 : syntax_parser) (w0_1 : Value) (h : syntax_parser_atom_j1 K rec_syntax_parser_alternative x0 = some r) : T Try.prog 96 (Code.at [1, 1, 0, 0, 1, 1, 1, 1, 1, 1, 1, 1, 1, 0] (codeOf Try.f39)) ⟨[(0, .ptr bx0 0)], [.box bx0 47 [.d (.str x0.reader.s), .d (.int .i64 x0.reader.at_), .d (.int .i64 x0.reader.where_), .d (.int .i64 x0.reader.e), .d (.ex w0_1), .d (.int .i64 x0.deep)], .arrA w0_1 36 9 (x0.nodes.map c_api_Node)]⟩ (syntax_parser_atom_qb0x111 bx0 r) := by
  unfold syntax_parser_atom_j1 at h
  refine T.seq ?_
  refine DGG.start ?_
  refine DGG.step (c := fun γ_338 => ⟨some 62, .ptr bx0 0, [(0, .ptr bx0 0)], [], []⟩) [] (fun _ _ _ => rfl) (fun γ_338 t hm => One.step rfl (.free rfl) (OpT.move rfl (dl rfl rfl) hm.s0 ⟨(fun _ => undef, 0), rfl⟩)) (fun γ_338 => Ct.met_of rfl rfl) ?_
  refine DGG.step (c := fun γ_338 => ⟨some 63, .ptr bx0 0, [(62, .ptr bx0 0)], [], []⟩) [] (fun _ _ _ => rfl) (fun γ_338 t hm => One.step rfl (.free rfl) (OpT.nilCheck rfl (dl rfl rfl) hm.s0 rfl ⟨(fun _ => undef, 0), rfl⟩)) (fun γ_338 => Ct.met_of rfl rfl) ?_
  refine DGG.step (c := fun γ_338 => ⟨some 64, .ptr bx0 (0 + 0), [(63, .ptr bx0 0)], [], []⟩) [] (fun _ _ _ => rfl) (fun γ_338 t hm => One.step rfl (.free rfl) (OpT.fieldPtr rfl (dl rfl rfl) Try.underlying47 rfl i45 (by decide) hm.s0 ⟨(fun _ => undef, 0), rfl⟩)) (fun γ_338 => Ct.met_of rfl rfl) ?_
  refine DGG.step (c := fun γ_338 => ⟨some 65, .ptr bx0 0, [(0, .ptr bx0 0)], [], []⟩) [] (fun _ _ _ => rfl) (fun γ_338 t hm => One.step rfl (.free rfl) (OpT.move rfl (dl rfl rfl) hm.s0 ⟨(fun _ => undef, 0), rfl⟩)) (fun γ_338 => Ct.met_of rfl rfl) ?_
  refine DGG.step (c := fun γ_338 => ⟨some 66, .ptr bx0 0, [(65, .ptr bx0 0)], [], []⟩) [] (fun _ _ _ => rfl) (fun γ_338 t hm => One.step rfl (.free rfl) (OpT.nilCheck rfl (dl rfl rfl) hm.s0 rfl ⟨(fun _ => undef, 0), rfl⟩)) (fun γ_338 => Ct.met_of rfl rfl) ?_
  refine DGG.step (c := fun γ_338 => ⟨some 67, .ptr bx0 (0 + 0), [(66, .ptr bx0 0)], [], []⟩) [] (fun _ _ _ => rfl) (fun γ_338 t hm => One.step rfl (.free rfl) (OpT.fieldPtr rfl (dl rfl rfl) Try.underlying47 rfl i45 (by decide) hm.s0 ⟨(fun _ => undef, 0), rfl⟩)) (fun γ_338 => Ct.met_of rfl rfl) ?_
  refine DGG.step (c := fun γ_338 => ⟨some 68, .ptr bx0 (0 + 0 + 1), [(67, .ptr bx0 (0 + 0))], [], []⟩) [] (fun _ _ _ => rfl) (fun γ_338 t hm => One.step rfl (.free rfl) (OpT.fieldPtr rfl (dl rfl rfl) Try.underlying45 rfl i3 (by decide) hm.s0 ⟨(fun _ => undef, 0), rfl⟩)) (fun γ_338 => Ct.met_of rfl rfl) ?_
  refine DGG.step (c := fun γ_338 => ⟨some 69, .int .i64 x0.reader.at_, [(68, .ptr bx0 (0 + 0 + 1))], [(0, .box bx0 47 [.d (.str x0.reader.s), .d (.int .i64 x0.reader.at_), .d (.int .i64 x0.reader.where_), .d (.int .i64 x0.reader.e), .d (.ex w0_1), .d (.int .i64 x0.deep)])], []⟩) [] (fun _ _ _ => rfl) (fun γ_338 t hm => One.step rfl (.free rfl) (OpT.loadBox (i := 0) rfl (dl rfl rfl) Try.underlying3 rfl hm.s0 hm.o0 rfl ⟨(fun _ => undef, 0), rfl⟩)) (fun γ_338 => Ct.met_of rfl rfl) ?_
  obtain ⟨v_341, e_342, h⟩ := bind_some h
  refine DGG.step (c := fun γ_338 => ⟨some 70, .tup [], [(64, .ptr bx0 (0 + 0)), (69, .int .i64 x0.reader.at_)], [(1, .arrA w0_1 36 9 (x0.nodes.map c_api_Node)), (0, .box bx0 47 [.d (.str x0.reader.s), .d (.int .i64 x0.reader.at_), .d (.int .i64 x0.reader.where_), .d (.int .i64 x0.reader.e), .d (.ex w0_1), .d (.int .i64 x0.deep)])], [(0, .box bx0 47 [.d (.str v_341.reader.s), .d (.int .i64 v_341.reader.at_), .d (.int .i64 v_341.reader.where_), .d (.int .i64 v_341.reader.e), .d (.ex ((γ_338 8).1 0)), .d (.int .i64 v_341.deep)]), (1, .arrA ((γ_338 8).1 0) 36 9 (v_341.nodes.map c_api_Node))]⟩) [8] (fun γ_338 γ' h => by simp only [h 8 (by decide)]) (fun γ_338 t hm => One.step rfl (.free rfl) (OpT.callG (is := [0, 1]) (ph := []) rfl (dl rfl rfl) Try.func20 rfl rfl (Args.cons hm.s0 (Args.cons rfl (Args.cons hm.s1 Args.nil))) (syntax_reader_fail_T K (bx0 := bx0) (wx0c1 := w0_1) e_342) (.cons hm.o1 rfl (.cons hm.o0 rfl (.nil))) (fun _ => rfl) (fun g => ⟨(g, 0), rfl⟩))) (fun γ_338 => Ct.met_of rfl rfl) ?_
  refine DGG.fin (s1 := fun γ_338 => ⟨[], [.box bx0 47 [.d (.str v_341.reader.s), .d (.int .i64 v_341.reader.at_), .d (.int .i64 v_341.reader.where_), .d (.int .i64 v_341.reader.e), .d (.ex ((γ_338 8).1 0)), .d (.int .i64 v_341.deep)], .arrA ((γ_338 8).1 0) 36 9 (v_341.nodes.map c_api_Node)]⟩) (ms := [0, 1, 3, 0, 8, 24, 56, 120, 255]) TryMixed rfl (by kernel_rfl) (by kernel_rfl) (by kernel_rfl) (fun γ_338 => by kernel_rfl) (fun γ_338 => .nil _) (fun _ => rfl) (fun γ_338 u hu => (thenS_normal (T.by_turn hu ?_)))
  refine T.seq ?_
  refine T.regionL ?_
  refine asg rfl rfl rfl rfl rfl ?_
  refine TL'.nil (thenS_normal ?_)
  refine T.ret (inBlock_ret (thenS_ret ?_))
  exact Fin.doneK (.cons _ _ _ _ (.tmp 2 _ rfl) .nil) (.cons 0 rfl (.cons 0 rfl (.nil _))) (by cases h; exact ⟨gl [(γ_338 8).1 0], rfl, rfl⟩)

theorem syntax_parser_atom_j2_T {r : Int × syntax_parser} (K : Nat) (rec_syntax_parser_alternative : syntax_parser → Option (Int × syntax_parser)) (hrec_syntax_parser_alternative : syntax_parser_alternative_S rec_syntax_parser_alternative) (bx0 : Nat) (x0 : syntax_parser) (w0_2 : Value) (h : syntax_parser_atom_j2 K rec_syntax_parser_alternative x0 = some r) : T Try.prog 96 (Code.at [1, 1, 0, 0, 1, 1, 1, 1, 1, 1, 1, 1, 1, 1, 1, 1] (codeOf Try.f39)) ⟨[(0, .ptr bx0 0)], [.box bx0 47 [.d (.str x0.reader.s), .d (.int .i64 x0.reader.at_), .d (.int .i64 x0.reader.where_), .d (.int .i64 x0.reader.e), .d (.ex w0_2), .d (.int .i64 x0.deep)], .arrA w0_2 36 9 (x0.nodes.map c_api_Node)]⟩ (syntax_parser_atom_qb0x111 bx0 r) := by
  unfold syntax_parser_atom_j2 at h
  refine T.skip (inBlock_normal (thenS_normal ?_))
  refine T.seq ?_
  refine T.regionL ?_
  refine mv rfl rfl rfl rfl rfl ?_
  refine mv rfl rfl rfl rfl rfl ?_
  refine sp rfl (OpT.nilCheck rfl (dl rfl rfl) rfl rfl ?_)
  refine sp rfl (OpT.fieldPtr rfl (dl rfl rfl) Try.underlying47 rfl i45 (by decide) rfl ?_)
  obtain ⟨v_353, e_354, h⟩ := bind_some h
  refine sp rfl (OpT.callG (is := [0, 1]) (ph := []) rfl (dl rfl rfl) Try.func50 rfl rfl (Args.cons rfl Args.nil) (syntax_reader_one_T K (bx0 := bx0) (wx0c1 := w0_2) e_354) (.cons rfl rfl (.cons rfl rfl (.nil))) (fun _ => rfl) (fun γ_355 => ?_))
  refine nm (.c (.c (.n))) ?_
  refine sp rfl (OpT.buildSlice (elems := ([v_353.1] : List Int).map (cI .u8)) rfl (dl rfl rfl) Try.underlying38 i5 (by decide) rfl (all1 rfl) rfl rfl rfl (lenAll rfl) (by decide) ?_)
  obtain ⟨v_356, e_357, h⟩ := bind_some h
  refine sp rfl (OpT.callPA rfl (dl rfl rfl) Try.func46 rfl rfl (Args.cons rfl Args.nil) (CallR.nil (bset_Of_T K (flx0 := true) e_357)) ?_)
  obtain ⟨v_358, e_359, h⟩ := bind_some h
  refine sp rfl (OpT.callG (is := [0, 1]) (ph := []) rfl (dl rfl rfl) Try.func42 rfl rfl (Args.cons rfl (Args.cons rfl Args.nil)) (syntax_parser_bytes_T K (bx0 := bx0) (wx0c1 := (γ_355 0)) e_359) (.cons rfl rfl (.cons rfl rfl (.nil))) (fun _ => rfl) (fun γ_360 => ?_))
  refine nm (.c (.c (.n))) ?_
  refine asg rfl rfl rfl rfl rfl ?_
  refine TL'.nil (thenS_normal ?_)
  refine T.ret ?_
  exact Fin.doneK (.cons _ _ _ _ (.tmp 2 _ rfl) .nil) (.cons 0 rfl (.cons 0 rfl (.nil _))) (by cases h; exact ⟨gl [γ_360 0], rfl, rfl⟩)

theorem syntax_parser_atom_j0_T {r : Int × syntax_parser} (K : Nat) (rec_syntax_parser_alternative : syntax_parser → Option (Int × syntax_parser)) (hrec_syntax_parser_alternative : syntax_parser_alternative_S rec_syntax_parser_alternative) (bx0 : Nat) (x3_0_6 : Int) (x0 : syntax_parser) (w0_0 : Value) (h : syntax_parser_atom_j0 K rec_syntax_parser_alternative x3_0_6 x0 = some r) : T Try.prog 96 (Code.at [1, 1, 0, 0, 1, 1, 1, 1, 1, 1, 1, 1] (codeOf Try.f39)) ⟨[(0, .ptr bx0 0), (3, .int .u8 x3_0_6)], [.box bx0 47 [.d (.str x0.reader.s), .d (.int .i64 x0.reader.at_), .d (.int .i64 x0.reader.where_), .d (.int .i64 x0.reader.e), .d (.ex w0_0), .d (.int .i64 x0.deep)], .arrA w0_0 36 9 (x0.nodes.map c_api_Node)]⟩ (syntax_parser_atom_qb0x111 bx0 r) := by
  unfold syntax_parser_atom_j0 at h
  refine T.seq ?_
  refine T.regionL ?_
  refine mv rfl rfl rfl rfl rfl ?_
  refine sp rfl (OpT.int2 rfl rfl (dl rfl rfl) rfl rfl ?_)
  refine mv rfl rfl rfl rfl rfl ?_
  rcases bif_some h with ⟨c_337, h⟩ | ⟨c_337, h⟩
  · refine TL'.passU (.off _ _ _ _ rfl rfl rfl c_337) (dl rfl rfl) ?_
    refine TL'.passU (.off _ _ _ _ rfl rfl rfl c_337) (dl rfl rfl) ?_
    refine sp rfl (OpT.pickT rfl (dl rfl rfl) rfl c_337 rfl ?_)
    refine asg rfl rfl rfl rfl rfl ?_
    refine TL'.nil (thenS_normal ?_)
    refine T.condT rfl rfl ?_
    refine T.by_turn ?_ (syntax_parser_atom_j1_T K rec_syntax_parser_alternative hrec_syntax_parser_alternative bx0 x0 w0_0 h)
    exact Turn.rp (.cons rfl (.nil _)) (.c .z (.c .z (.n _)))
  · refine TL'.step (.on rfl rfl rfl c_337) (OpT.move rfl (dl rfl rfl) rfl ?_)
    refine TL'.step (.on rfl rfl rfl c_337) (OpT.int2 rfl rfl (dl rfl rfl) rfl rfl ?_)
    refine sp rfl (OpT.pickF rfl (dl rfl rfl) rfl c_337 rfl ?_)
    refine asg rfl rfl rfl rfl rfl ?_
    refine TL'.nil (thenS_normal ?_)
    rcases bif_some h with ⟨c_343, h⟩ | ⟨c_343, h⟩
    · refine T.condT rfl c_343 ?_
      refine T.by_turn ?_ (syntax_parser_atom_j1_T K rec_syntax_parser_alternative hrec_syntax_parser_alternative bx0 x0 w0_0 h)
      exact Turn.rp (.cons rfl (.nil _)) (.c .z (.c .z (.n _)))
    · refine T.condF rfl c_343 ?_
      refine T.seq ?_
      refine T.regionL ?_
      refine mv rfl rfl rfl rfl rfl ?_
      refine sp rfl (OpT.int2 rfl rfl (dl rfl rfl) rfl rfl ?_)
      refine mv rfl rfl rfl rfl rfl ?_
      rcases bif_some h with ⟨c_344, h⟩ | ⟨c_344, h⟩
      · refine TL'.step (.on rfl rfl rfl c_344) (OpT.move rfl (dl rfl rfl) rfl ?_)
        obtain ⟨v_345, e_346, h⟩ := bind_some h
        refine TL'.step (.on rfl rfl rfl c_344) (OpT.callPA rfl (dl rfl rfl) Try.func49 rfl rfl (Args.cons rfl (Args.cons rfl Args.nil)) (CallR.nil (strings_IndexByte_T K e_346)) ?_)
        refine TL'.step (.on rfl rfl rfl c_344) (OpT.int2 rfl rfl (dl rfl rfl) rfl rfl ?_)
        refine sp rfl (OpT.pickT rfl (dl rfl rfl) rfl c_344 rfl ?_)
        refine asg rfl rfl rfl rfl rfl ?_
        refine TL'.nil (thenS_normal ?_)
        rcases bif_some h with ⟨c_347, h⟩ | ⟨c_347, h⟩
        · refine T.condT rfl c_347 ?_
          refine T.seq ?_
          refine DGG.start ?_
          refine DGG.step (c := fun γ_348 => ⟨some 79, .ptr bx0 0, [(0, .ptr bx0 0)], [], []⟩) [] (fun _ _ _ => rfl) (fun γ_348 t hm => One.step rfl (.free rfl) (OpT.move rfl (dl rfl rfl) hm.s0 ⟨(fun _ => undef, 0), rfl⟩)) (fun γ_348 => Ct.met_of rfl rfl) ?_
          refine DGG.step (c := fun γ_348 => ⟨some 80, .ptr bx0 0, [(79, .ptr bx0 0)], [], []⟩) [] (fun _ _ _ => rfl) (fun γ_348 t hm => One.step rfl (.free rfl) (OpT.nilCheck rfl (dl rfl rfl) hm.s0 rfl ⟨(fun _ => undef, 0), rfl⟩)) (fun γ_348 => Ct.met_of rfl rfl) ?_
          refine DGG.step (c := fun γ_348 => ⟨some 81, .ptr bx0 (0 + 0), [(80, .ptr bx0 0)], [], []⟩) [] (fun _ _ _ => rfl) (fun γ_348 t hm => One.step rfl (.free rfl) (OpT.fieldPtr rfl (dl rfl rfl) Try.underlying47 rfl i45 (by decide) hm.s0 ⟨(fun _ => undef, 0), rfl⟩)) (fun γ_348 => Ct.met_of rfl rfl) ?_
          refine DGG.step (c := fun γ_348 => ⟨some 82, .ptr bx0 0, [(0, .ptr bx0 0)], [], []⟩) [] (fun _ _ _ => rfl) (fun γ_348 t hm => One.step rfl (.free rfl) (OpT.move rfl (dl rfl rfl) hm.s0 ⟨(fun _ => undef, 0), rfl⟩)) (fun γ_348 => Ct.met_of rfl rfl) ?_
          refine DGG.step (c := fun γ_348 => ⟨some 83, .ptr bx0 0, [(82, .ptr bx0 0)], [], []⟩) [] (fun _ _ _ => rfl) (fun γ_348 t hm => One.step rfl (.free rfl) (OpT.nilCheck rfl (dl rfl rfl) hm.s0 rfl ⟨(fun _ => undef, 0), rfl⟩)) (fun γ_348 => Ct.met_of rfl rfl) ?_
          refine DGG.step (c := fun γ_348 => ⟨some 84, .ptr bx0 (0 + 0), [(83, .ptr bx0 0)], [], []⟩) [] (fun _ _ _ => rfl) (fun γ_348 t hm => One.step rfl (.free rfl) (OpT.fieldPtr rfl (dl rfl rfl) Try.underlying47 rfl i45 (by decide) hm.s0 ⟨(fun _ => undef, 0), rfl⟩)) (fun γ_348 => Ct.met_of rfl rfl) ?_
          refine DGG.step (c := fun γ_348 => ⟨some 85, .ptr bx0 (0 + 0 + 1), [(84, .ptr bx0 (0 + 0))], [], []⟩) [] (fun _ _ _ => rfl) (fun γ_348 t hm => One.step rfl (.free rfl) (OpT.fieldPtr rfl (dl rfl rfl) Try.underlying45 rfl i3 (by decide) hm.s0 ⟨(fun _ => undef, 0), rfl⟩)) (fun γ_348 => Ct.met_of rfl rfl) ?_
          refine DGG.step (c := fun γ_348 => ⟨some 86, .int .i64 x0.reader.at_, [(85, .ptr bx0 (0 + 0 + 1))], [(0, .box bx0 47 [.d (.str x0.reader.s), .d (.int .i64 x0.reader.at_), .d (.int .i64 x0.reader.where_), .d (.int .i64 x0.reader.e), .d (.ex w0_0), .d (.int .i64 x0.deep)])], []⟩) [] (fun _ _ _ => rfl) (fun γ_348 t hm => One.step rfl (.free rfl) (OpT.loadBox (i := 0) rfl (dl rfl rfl) Try.underlying3 rfl hm.s0 hm.o0 rfl ⟨(fun _ => undef, 0), rfl⟩)) (fun γ_348 => Ct.met_of rfl rfl) ?_
          obtain ⟨v_351, e_352, h⟩ := bind_some h
          refine DGG.step (c := fun γ_348 => ⟨some 87, .tup [], [(81, .ptr bx0 (0 + 0)), (86, .int .i64 x0.reader.at_)], [(1, .arrA w0_0 36 9 (x0.nodes.map c_api_Node)), (0, .box bx0 47 [.d (.str x0.reader.s), .d (.int .i64 x0.reader.at_), .d (.int .i64 x0.reader.where_), .d (.int .i64 x0.reader.e), .d (.ex w0_0), .d (.int .i64 x0.deep)])], [(0, .box bx0 47 [.d (.str v_351.reader.s), .d (.int .i64 v_351.reader.at_), .d (.int .i64 v_351.reader.where_), .d (.int .i64 v_351.reader.e), .d (.ex ((γ_348 8).1 0)), .d (.int .i64 v_351.deep)]), (1, .arrA ((γ_348 8).1 0) 36 9 (v_351.nodes.map c_api_Node))]⟩) [8] (fun γ_348 γ' h => by simp only [h 8 (by decide)]) (fun γ_348 t hm => One.step rfl (.free rfl) (OpT.callG (is := [0, 1]) (ph := []) rfl (dl rfl rfl) Try.func20 rfl rfl (Args.cons hm.s0 (Args.cons rfl (Args.cons hm.s1 Args.nil))) (syntax_reader_fail_T K (bx0 := bx0) (wx0c1 := w0_0) e_352) (.cons hm.o1 rfl (.cons hm.o0 rfl (.nil))) (fun _ => rfl) (fun g => ⟨(g, 0), rfl⟩))) (fun γ_348 => Ct.met_of rfl rfl) ?_
          refine DGG.fin (s1 := fun γ_348 => ⟨[], [.box bx0 47 [.d (.str v_351.reader.s), .d (.int .i64 v_351.reader.at_), .d (.int .i64 v_351.reader.where_), .d (.int .i64 v_351.reader.e), .d (.ex ((γ_348 8).1 0)), .d (.int .i64 v_351.deep)], .arrA ((γ_348 8).1 0) 36 9 (v_351.nodes.map c_api_Node)]⟩) (ms := [0, 1, 3, 0, 8, 24, 56, 120, 255]) TryMixed rfl (by kernel_rfl) (by kernel_rfl) (by kernel_rfl) (fun γ_348 => by kernel_rfl) (fun γ_348 => .nil _) (fun _ => rfl) (fun γ_348 u hu => (thenS_normal (T.by_turn hu ?_)))
          refine T.seq ?_
          refine T.regionL ?_
          refine asg rfl rfl rfl rfl rfl ?_
          refine TL'.nil (thenS_normal ?_)
          refine T.ret (inBlock_ret (thenS_ret ?_))
          exact Fin.doneK (.cons _ _ _ _ (.tmp 2 _ rfl) .nil) (.cons 0 rfl (.cons 0 rfl (.nil _))) (by cases h; exact ⟨gl [(γ_348 8).1 0], rfl, rfl⟩)
        · refine T.condF rfl c_347 ?_
          refine T.by_turn ?_ (syntax_parser_atom_j2_T K rec_syntax_parser_alternative hrec_syntax_parser_alternative bx0 x0 w0_0 h)
          exact Turn.rp (.cons rfl (.nil _)) (.c .z (.c .z (.n _)))
      · refine TL'.passU (.off _ _ _ _ rfl rfl rfl c_344) (dl rfl rfl) ?_
        refine TL'.passU (.off _ _ _ _ rfl rfl rfl c_344) (dl rfl rfl) ?_
        refine TL'.passU (.off _ _ _ _ rfl rfl rfl c_344) (dl rfl rfl) ?_
        refine sp rfl (OpT.pickF rfl (dl rfl rfl) rfl c_344 rfl ?_)
        refine asg rfl rfl rfl rfl rfl ?_
        refine TL'.nil (thenS_normal ?_)
        refine T.condF rfl rfl ?_
        refine T.by_turn ?_ (syntax_parser_atom_j2_T K rec_syntax_parser_alternative hrec_syntax_parser_alternative bx0 x0 w0_0 h)
        exact Turn.rp (.cons rfl (.nil _)) (.c .z (.c .z (.n _)))

theorem syntax_parser_atom_T (K : Nat) (rec_syntax_parser_alternative : syntax_parser → Option (Int × syntax_parser)) (hrec_syntax_parser_alternative : syntax_parser_alternative_S rec_syntax_parser_alternative) {x0 : syntax_parser} {bx0 : Nat} {wx0c1 : Value} {r : Int × syntax_parser} (h : syntax_parser_atom K rec_syntax_parser_alternative x0 = some r) : CallG Try.prog 39 [.ptr bx0 0] [.box bx0 47 [.d (.str x0.reader.s), .d (.int .i64 x0.reader.at_), .d (.int .i64 x0.reader.where_), .d (.int .i64 x0.reader.e), .d (.ex wx0c1), .d (.int .i64 x0.deep)], .arrA wx0c1 36 9 (x0.nodes.map c_api_Node)] (fun γ => (.int .i64 r.1)) (fun γ => [.box bx0 47 [.d (.str r.2.reader.s), .d (.int .i64 r.2.reader.at_), .d (.int .i64 r.2.reader.where_), .d (.int .i64 r.2.reader.e), .d (.ex (γ 0)), .d (.int .i64 r.2.deep)], .arrA (γ 0) 36 9 (r.2.nodes.map c_api_Node)]) := by
  refine CallT.intro Try.func39 rfl (Nat.le_of_ble_eq_true rfl) ?_
  show T Try.prog 96 (Code.at [] (codeOf Try.f39)) ⟨paramSlots 0 [.ptr bx0 0], [.box bx0 47 [.d (.str x0.reader.s), .d (.int .i64 x0.reader.at_), .d (.int .i64 x0.reader.where_), .d (.int .i64 x0.reader.e), .d (.ex wx0c1), .d (.int .i64 x0.deep)], .arrA wx0c1 36 9 (x0.nodes.map c_api_Node)]⟩ (syntax_parser_atom_q bx0 r)
  unfold syntax_parser_atom at h
  refine T.seq ?_
  refine T.regionL ?_
  refine asg rfl rfl rfl rfl rfl ?_
  refine TL'.nil (thenS_normal ?_)
  refine T.seq ?_
  refine T.regionL ?_
  refine mv rfl rfl rfl rfl rfl ?_
  refine sp rfl (OpT.nilCheck rfl (dl rfl rfl) rfl rfl ?_)
  refine sp rfl (OpT.fieldPtr rfl (dl rfl rfl) Try.underlying47 rfl i45 (by decide) rfl ?_)
  obtain ⟨v_301, e_302, h⟩ := bind_some h
  refine sp rfl (OpT.callG (is := [0, 1]) (ph := []) rfl (dl rfl rfl) Try.func19 rfl rfl (Args.cons rfl Args.nil) (syntax_reader_peek_T K (bx0 := bx0) (wx0c1 := wx0c1) e_302) (.cons rfl rfl (.cons rfl rfl (.nil))) (fun _ => rfl) (fun γ_303 => ?_))
  refine nm (.c (.c (.n))) ?_
  refine mv rfl rfl rfl rfl rfl ?_
  refine sp rfl (OpT.extract rfl (dl rfl rfl) rfl rfl ?_)
  refine sp rfl (OpT.extract rfl (dl rfl rfl) rfl rfl ?_)
  refine asg rfl rfl rfl rfl rfl ?_
  refine asg rfl rfl rfl rfl rfl ?_
  refine TL'.nil (thenS_normal ?_)
  refine T.seq ?_
  refine T.block ?_
  refine T.seq ?_
  refine T.regionL ?_
  refine mv rfl rfl rfl rfl rfl ?_
  refine sp rfl (OpT.int2 rfl rfl (dl rfl rfl) rfl rfl ?_)
  refine asg rfl rfl rfl rfl rfl ?_
  refine TL'.nil (thenS_normal ?_)
  rcases bif_some h with ⟨c_304, h⟩ | ⟨c_304, h⟩
  · refine T.condT rfl c_304 ?_
    refine T.seq ?_
    refine T.regionL ?_
    refine mv rfl rfl rfl rfl rfl ?_
    obtain ⟨v_305, e_306, h⟩ := bind_some h
    refine sp rfl (OpT.callG (is := [0, 1]) (ph := []) rfl (dl rfl rfl) Try.func41 rfl rfl (Args.cons rfl Args.nil) (syntax_parser_group_T K rec_syntax_parser_alternative hrec_syntax_parser_alternative (bx0 := bx0) (wx0c1 := (γ_303 0)) e_306) (.cons rfl rfl (.cons rfl rfl (.nil))) (fun _ => rfl) (fun γ_307 => ?_))
    refine nm (.c (.c (.n))) ?_
    refine asg rfl rfl rfl rfl rfl ?_
    refine TL'.nil (thenS_normal ?_)
    refine T.ret (inBlock_ret (thenS_ret ?_))
    exact Fin.doneK (.cons _ _ _ _ (.tmp 2 _ rfl) .nil) (.cons 0 rfl (.cons 0 rfl (.nil _))) (by cases h; exact ⟨gl [γ_307 0], rfl, rfl⟩)
  · refine T.condF rfl c_304 ?_
    refine T.seq ?_
    refine T.regionL ?_
    refine mv rfl rfl rfl rfl rfl ?_
    refine sp rfl (OpT.int2 rfl rfl (dl rfl rfl) rfl rfl ?_)
    refine asg rfl rfl rfl rfl rfl ?_
    refine TL'.nil (thenS_normal ?_)
    rcases bif_some h with ⟨c_308, h⟩ | ⟨c_308, h⟩
    · refine T.condT rfl c_308 ?_
      refine T.seq ?_
      refine T.regionL ?_
      refine mv rfl rfl rfl rfl rfl ?_
      refine mv rfl rfl rfl rfl rfl ?_
      refine sp rfl (OpT.nilCheck rfl (dl rfl rfl) rfl rfl ?_)
      refine sp rfl (OpT.fieldPtr rfl (dl rfl rfl) Try.underlying47 rfl i45 (by decide) rfl ?_)
      obtain ⟨v_309, e_310, h⟩ := bind_some h
      refine sp rfl (OpT.callG (is := [0, 1]) (ph := []) rfl (dl rfl rfl) Try.func43 rfl rfl (Args.cons rfl Args.nil) (syntax_reader_class_T K (bx0 := bx0) (wx0c1 := (γ_303 0)) e_310) (.cons rfl rfl (.cons rfl rfl (.nil))) (fun _ => rfl) (fun γ_311 => ?_))
      refine nm (.c (.c (.n))) ?_
      obtain ⟨v_312, e_313, h⟩ := bind_some h
      refine sp rfl (OpT.callG (is := [0, 1]) (ph := []) rfl (dl rfl rfl) Try.func42 rfl rfl (Args.cons rfl (Args.cons rfl Args.nil)) (syntax_parser_bytes_T K (bx0 := bx0) (wx0c1 := (γ_311 0)) e_313) (.cons rfl rfl (.cons rfl rfl (.nil))) (fun _ => rfl) (fun γ_314 => ?_))
      refine nm (.c (.c (.n))) ?_
      refine asg rfl rfl rfl rfl rfl ?_
      refine TL'.nil (thenS_normal ?_)
      refine T.ret (inBlock_ret (thenS_ret ?_))
      exact Fin.doneK (.cons _ _ _ _ (.tmp 2 _ rfl) .nil) (.cons 0 rfl (.cons 0 rfl (.nil _))) (by cases h; exact ⟨gl [γ_314 0], rfl, rfl⟩)
    · refine T.condF rfl c_308 ?_
      refine T.seq ?_
      refine T.regionL ?_
      refine mv rfl rfl rfl rfl rfl ?_
      refine sp rfl (OpT.int2 rfl rfl (dl rfl rfl) rfl rfl ?_)
      refine asg rfl rfl rfl rfl rfl ?_
      refine TL'.nil (thenS_normal ?_)
      rcases bif_some h with ⟨c_315, h⟩ | ⟨c_315, h⟩
      · refine T.condT rfl c_315 ?_
        refine T.seq ?_
        refine T.regionL ?_
        refine mv rfl rfl rfl rfl rfl ?_
        refine sp rfl (OpT.nilCheck rfl (dl rfl rfl) rfl rfl ?_)
        refine sp rfl (OpT.fieldPtr rfl (dl rfl rfl) Try.underlying47 rfl i45 (by decide) rfl ?_)
        obtain ⟨v_316, e_317, h⟩ := bind_some h
        refine sp rfl (OpT.callG (is := [0, 1]) (ph := []) rfl (dl rfl rfl) Try.func44 rfl rfl (Args.cons rfl Args.nil) (syntax_reader_next_T K (bx0 := bx0) (wx0c1 := (γ_303 0)) e_317) (.cons rfl rfl (.cons rfl rfl (.nil))) (fun _ => rfl) (fun γ_318 => ?_))
        refine nm (.c (.c (.n))) ?_
        refine TL'.nil (thenS_normal ?_)
        refine T.seq ?_
        refine T.regionL ?_
        refine mv rfl rfl rfl rfl rfl ?_
        refine sp rfl (OpT.buildSlice (elems := ([(10 : Int)] : List Int).map (cI .u8)) rfl (dl rfl rfl) Try.underlying38 i5 (by decide) rfl (all1 rfl) rfl rfl rfl (lenAll rfl) (by decide) ?_)
        obtain ⟨v_319, e_320, h⟩ := bind_some h
        refine sp rfl (OpT.callPA rfl (dl rfl rfl) Try.func46 rfl rfl (Args.cons rfl Args.nil) (CallR.nil (bset_Of_T K (flx0 := true) e_320)) ?_)
        obtain ⟨v_321, e_322, h⟩ := bind_some h
        refine sp rfl (OpT.callPA rfl (dl rfl rfl) Try.func45 rfl rfl (Args.cons rfl Args.nil) (CallR.nil (bset_Not_T K e_322)) ?_)
        obtain ⟨v_323, e_324, h⟩ := bind_some h
        refine sp rfl (OpT.callG (is := [0, 1]) (ph := []) rfl (dl rfl rfl) Try.func42 rfl rfl (Args.cons rfl (Args.cons rfl Args.nil)) (syntax_parser_bytes_T K (bx0 := bx0) (wx0c1 := (γ_318 0)) e_324) (.cons rfl rfl (.cons rfl rfl (.nil))) (fun _ => rfl) (fun γ_325 => ?_))
        refine nm (.c (.c (.n))) ?_
        refine asg rfl rfl rfl rfl rfl ?_
        refine TL'.nil (thenS_normal ?_)
        refine T.ret (inBlock_ret (thenS_ret ?_))
        exact Fin.doneK (.cons _ _ _ _ (.tmp 2 _ rfl) .nil) (.cons 0 rfl (.cons 0 rfl (.nil _))) (by cases h; exact ⟨gl [γ_325 0], rfl, rfl⟩)
      · refine T.condF rfl c_315 ?_
        refine T.seq ?_
        refine T.regionL ?_
        refine mv rfl rfl rfl rfl rfl ?_
        refine sp rfl (OpT.int2 rfl rfl (dl rfl rfl) rfl rfl ?_)
        refine mv rfl rfl rfl rfl rfl ?_
        rcases bif_some h with ⟨c_326, h⟩ | ⟨c_326, h⟩
        · refine TL'.step (.on rfl rfl rfl c_326) (OpT.move rfl (dl rfl rfl) rfl ?_)
          refine TL'.step (.on rfl rfl rfl c_326) (OpT.nilCheck rfl (dl rfl rfl) rfl rfl ?_)
          refine TL'.step (.on rfl rfl rfl c_326) (OpT.fieldPtr rfl (dl rfl rfl) Try.underlying47 rfl i45 (by decide) rfl ?_)
          obtain ⟨v_327, e_328, h⟩ := bind_some h
          refine TL'.step (.on rfl rfl rfl c_326) (OpT.callG (is := [0, 1]) (ph := []) rfl (dl rfl rfl) Try.func47 rfl rfl (Args.cons rfl (Args.cons rfl Args.nil)) (syntax_reader_digit_T K (bx0 := bx0) (wx0c1 := (γ_303 0)) e_328) (.cons rfl rfl (.cons rfl rfl (.nil))) (fun _ => rfl) (fun γ_329 => ?_))
          refine nm (.c (.c (.n))) ?_
          refine TL'.step (.on rfl rfl rfl c_326) (OpT.not rfl (dl rfl rfl) rfl ?_)
          refine sp rfl (OpT.pickT rfl (dl rfl rfl) rfl c_326 rfl ?_)
          refine asg rfl rfl rfl rfl rfl ?_
          refine TL'.nil (thenS_normal ?_)
          rcases bif_some h with ⟨c_330, h⟩ | ⟨c_330, h⟩
          · refine T.condT rfl c_330 ?_
            refine T.seq ?_
            refine T.regionL ?_
            refine mv rfl rfl rfl rfl rfl ?_
            refine mv rfl rfl rfl rfl rfl ?_
            refine sp rfl (OpT.nilCheck rfl (dl rfl rfl) rfl rfl ?_)
            refine sp rfl (OpT.fieldPtr rfl (dl rfl rfl) Try.underlying47 rfl i45 (by decide) rfl ?_)
            obtain ⟨v_331, e_332, h⟩ := bind_some h
            refine sp rfl (OpT.callG (is := [0, 1]) (ph := []) rfl (dl rfl rfl) Try.func48 rfl rfl (Args.cons rfl Args.nil) (syntax_reader_name_T K (bx0 := bx0) (wx0c1 := (γ_329 0)) e_332) (.cons rfl rfl (.cons rfl rfl (.nil))) (fun _ => rfl) (fun γ_333 => ?_))
            refine nm (.c (.c (.n))) ?_
            refine sp rfl (OpT.thenTurn (OpT.build (l := [.int .u8 (6 : Int), .int .u64 (Arr4.mk 0 0 0 0).a0, .int .u64 (Arr4.mk 0 0 0 0).a1, .int .u64 (Arr4.mk 0 0 0 0).a2, .int .u64 (Arr4.mk 0 0 0 0).a3, .ex (.slice none 0 0), .int .i64 (0 : Int), .int .i64 (0 : Int), .str v_331.1]) rfl (dl rfl rfl) (built_struct (pl := [(0, 1), (1, 4), (5, 1), (6, 1), (7, 1), (8, 1)]) Try.underlying36 i36 rfl) (all1 rfl) rfl rfl rfl) (Turn.weakSlotP 53 (l := [.int .u8 (6 : Int), .int .u64 (Arr4.mk 0 0 0 0).a0, .int .u64 (Arr4.mk 0 0 0 0).a1, .int .u64 (Arr4.mk 0 0 0 0).a2, .int .u64 (Arr4.mk 0 0 0 0).a3, .ex (.slice none 0 0), .int .i64 (0 : Int), .int .i64 (0 : Int), .str v_331.1]) (l' := [.int .u8 (6 : Int), .int .u64 (Arr4.mk 0 0 0 0).a0, .int .u64 (Arr4.mk 0 0 0 0).a1, .int .u64 (Arr4.mk 0 0 0 0).a2, .int .u64 (Arr4.mk 0 0 0 0).a3, .sl false 1 (([] : List Int).map (cI .i64)), .int .i64 (0 : Int), .int .i64 (0 : Int), .str v_331.1]) (.cons (.same _) (.cons (.same _) (.cons (.same _) (.cons (.same _) (.cons (.same _) (.cons (.nil _ _) (.cons (.same _) (.cons (.same _) (.cons (.same _) (.refl _))))))))))) ?_)
            obtain ⟨v_334, e_335, h⟩ := bind_some h
            refine sp rfl (OpT.callG (is := [0, 1]) (ph := []) rfl (dl rfl rfl) Try.func34 rfl rfl (Args.cons rfl (Args.cons rfl Args.nil)) (syntax_parser_put_T K (bx0 := bx0) (wx0c1 := (γ_333 0)) e_335) (.cons rfl rfl (.cons rfl rfl (.nil))) (fun _ => rfl) (fun γ_336 => ?_))
            refine nm (.c (.c (.n))) ?_
            refine asg rfl rfl rfl rfl rfl ?_
            refine TL'.nil (thenS_normal ?_)
            refine T.ret (inBlock_ret (thenS_ret ?_))
            exact Fin.doneK (.cons _ _ _ _ (.tmp 2 _ rfl) .nil) (.cons 0 rfl (.cons 0 rfl (.nil _))) (by cases h; exact ⟨gl [γ_336 0], rfl, rfl⟩)
          · refine T.condF rfl c_330 ?_
            refine T.by_turn ?_ (syntax_parser_atom_j0_T K rec_syntax_parser_alternative hrec_syntax_parser_alternative bx0 v_301.1 x0 (γ_329 0) h)
            exact Turn.rp (.cons rfl (.cons rfl (.nil _))) (.c .z (.c .z (.n _)))
        · refine TL'.passU (.off _ _ _ _ rfl rfl rfl c_326) (dl rfl rfl) ?_
          refine TL'.passU (.off _ _ _ _ rfl rfl rfl c_326) (dl rfl rfl) ?_
          refine TL'.passU (.off _ _ _ _ rfl rfl rfl c_326) (dl rfl rfl) ?_
          refine TL'.passU (.off _ _ _ _ rfl rfl rfl c_326) (dl rfl rfl) ?_
          refine TL'.passU (.off _ _ _ _ rfl rfl rfl c_326) (dl rfl rfl) ?_
          refine sp rfl (OpT.pickF rfl (dl rfl rfl) rfl c_326 rfl ?_)
          refine asg rfl rfl rfl rfl rfl ?_
          refine TL'.nil (thenS_normal ?_)
          refine T.condF rfl rfl ?_
          refine T.by_turn ?_ (syntax_parser_atom_j0_T K rec_syntax_parser_alternative hrec_syntax_parser_alternative bx0 v_301.1 x0 (γ_303 0) h)
          exact Turn.rp (.cons rfl (.cons rfl (.nil _))) (.c .z (.c .z (.n _)))

abbrev syntax_reader_number_q (bx0 : Nat) (r : Int × syntax_parser) : Exit → St → Prop := retS Try.prog Try.f57 (fun y t => ∃ γ : Nat → Value, y = (.int .i64 r.1) ∧ t = [.box bx0 47 [.d (.str r.2.reader.s), .d (.int .i64 r.2.reader.at_), .d (.int .i64 r.2.reader.where_), .d (.int .i64 r.2.reader.e), .d (.ex (γ 0)), .d (.int .i64 r.2.deep)], .arrA (γ 0) 36 9 (r.2.nodes.map c_api_Node)])

abbrev syntax_reader_number_qs1111 (bx0 : Nat) (r : Int × syntax_parser) : Exit → St → Prop := thenS (fun s' => T Try.prog 42 (Code.at [1, 1, 1, 1] (codeOf Try.f57)) s' ((syntax_reader_number_q bx0 r))) ((syntax_reader_number_q bx0 r))

abbrev syntax_reader_number_qs111 (bx0 : Nat) (r : Int × syntax_parser) : Exit → St → Prop := thenS (fun s' => T Try.prog 42 (Code.at [1, 1, 1] (codeOf Try.f57)) s' ((syntax_reader_number_q bx0 r))) ((syntax_reader_number_q bx0 r))

abbrev syntax_reader_number_qb0x111 (bx0 : Nat) (r : Int × syntax_parser) : Exit → St → Prop := inBlockS 0 ((syntax_reader_number_qs111 bx0 r))

theorem syntax_reader_number_j1_T {r : Int × syntax_parser} (K : Nat) (bx0 : Nat) (y9000_1_0 : ByteArray) (y9000_1_1 : Int) (y9000_1_2 : Int) (y9000_1_3 : Int) (y9000_1_5 : Int) (y9000_1_4 : List api_Node) (w9000_1 : Value) (h : syntax_reader_number_j1 K y9000_1_0 y9000_1_1 y9000_1_2 y9000_1_3 y9000_1_5 y9000_1_4 = some r) : T Try.prog 42 (Code.at [1, 1, 1, 0, 1, 1, 0] (codeOf Try.f57)) ⟨[], [.box bx0 47 [.d (.str y9000_1_0), .d (.int .i64 y9000_1_1), .d (.int .i64 y9000_1_2), .d (.int .i64 y9000_1_3), .d (.ex w9000_1), .d (.int .i64 y9000_1_5)], .arrA w9000_1 36 9 (y9000_1_4.map c_api_Node)]⟩ (syntax_reader_number_qs1111 bx0 r) := by
  unfold syntax_reader_number_j1 at h
  refine T.seq ?_
  refine T.regionL ?_
  refine asg rfl rfl rfl rfl rfl ?_
  refine TL'.nil (thenS_normal ?_)
  refine T.ret (thenS_ret ?_)
  exact Fin.doneK (.cons _ _ _ _ (.tmp 2 _ rfl) .nil) (.cons 0 rfl (.cons 0 rfl (.nil _))) (by cases h; exact ⟨gl [w9000_1], rfl, rfl⟩)

theorem syntax_reader_number_l0_T {r : Int × syntax_parser} (K : Nat) (bx0 : Nat) : ∀ (k : Nat), ∀ (x0 : syntax_parser) (x4_0_7 : Int) (y0_0_0 : ByteArray) (y0_0_1 : Int) (y0_0_2 : Int) (y0_0_3 : Int) (y0_0_5 : Int) (y0_0_4 : List api_Node) (w0_0 : Value), syntax_reader_number_l0 K k x0 x4_0_7 y0_0_0 y0_0_1 y0_0_2 y0_0_3 y0_0_5 y0_0_4 = some r → TL Try.prog 42 (Code.at [1, 1, 0, 0, 0] (codeOf Try.f57)) ⟨[(0, .ptr bx0 (0 + 0)), (3, .int .i64 x0.reader.at_), (4, .int .i64 x4_0_7)], [.box bx0 47 [.d (.str y0_0_0), .d (.int .i64 y0_0_1), .d (.int .i64 y0_0_2), .d (.int .i64 y0_0_3), .d (.ex w0_0), .d (.int .i64 y0_0_5)], .arrA w0_0 36 9 (y0_0_4.map c_api_Node)]⟩ (syntax_reader_number_qb0x111 bx0 r) := by
  intro k
  induction k with
  | zero =>
    intro x0 x4_0_7 y0_0_0 y0_0_1 y0_0_2 y0_0_3 y0_0_5 y0_0_4 w0_0 h
    cases (show (none : Option (Int × syntax_parser)) = some r from h)
  | succ k ih =>
    intro x0 x4_0_7 y0_0_0 y0_0_1 y0_0_2 y0_0_3 y0_0_5 y0_0_4 w0_0 h
    rw [syntax_reader_number_l0] at h
    refine TL.round ?_
    refine T.seq ?_
    refine T.seq ?_
    refine T.regionL ?_
    refine mv rfl rfl rfl rfl rfl ?_
    obtain ⟨v_111, e_112, h⟩ := bind_some h
    refine sp rfl (OpT.callG (is := [0, 1]) (ph := []) rfl (dl rfl rfl) Try.func47 rfl rfl (Args.cons rfl (Args.cons rfl Args.nil)) (syntax_reader_digit_T K (bx0 := bx0) (wx0c1 := w0_0) e_112) (.cons rfl rfl (.cons rfl rfl (.nil))) (fun _ => rfl) (fun γ_113 => ?_))
    refine nm (.c (.c (.n))) ?_
    refine TL'.nil (thenS_normal ?_)
    rcases bif_some h with ⟨c_114, h⟩ | ⟨c_114, h⟩
    · refine T.condT rfl c_114 ?_
      refine T.skip (thenS_normal ?_)
      refine T.block ?_
      refine T.regionL ?_
      refine mv rfl rfl rfl rfl rfl ?_
      refine sp rfl (OpT.int2 rfl rfl (dl rfl rfl) rfl rfl ?_)
      refine mv rfl rfl rfl rfl rfl ?_
      obtain ⟨v_115, e_116, h⟩ := bind_some h
      refine sp rfl (OpT.callG (is := [0, 1]) (ph := []) rfl (dl rfl rfl) Try.func44 rfl rfl (Args.cons rfl Args.nil) (syntax_reader_next_T K (bx0 := bx0) (wx0c1 := (γ_113 0)) e_116) (.cons rfl rfl (.cons rfl rfl (.nil))) (fun _ => rfl) (fun γ_117 => ?_))
      refine nm (.c (.c (.n))) ?_
      refine sp rfl (OpT.int2 rfl rfl (dl rfl rfl) rfl rfl ?_)
      refine sp rfl (OpT.convInt rfl (dl rfl rfl) Try.underlying5 Try.underlying3 rfl ?_)
      refine sp rfl (OpT.int2 rfl rfl (dl rfl rfl) rfl rfl ?_)
      refine sp rfl (OpT.min2 rfl (dl rfl rfl) rfl rfl ?_)
      refine asg rfl rfl rfl rfl rfl ?_
      refine TL'.nil (inBlock_normal (thenS_normal ?_))
      refine TL.by_turn ?_ (ih x0 (if (4097 : Int) < (IntKind.i64.wrap ((IntKind.i64.wrap ((10 : Int) * x4_0_7)) + (IntKind.i64.wrap (IntKind.u8.wrap (v_115.1 - (48 : Int)))))) then (4097 : Int) else (IntKind.i64.wrap ((IntKind.i64.wrap ((10 : Int) * x4_0_7)) + (IntKind.i64.wrap (IntKind.u8.wrap (v_115.1 - (48 : Int))))))) v_115.2.reader.s v_115.2.reader.at_ v_115.2.reader.where_ v_115.2.reader.e v_115.2.deep v_115.2.nodes (γ_117 0) h)
      exact Turn.rp (.cons rfl (.cons rfl (.cons rfl (.nil _)))) (.c .z (.c .z (.n _)))
    · refine T.condF rfl c_114 ?_
      refine T.exit (thenS_exit (thenS_exit (inBlock_exit (thenS_normal ?_))))
      refine T.seq ?_
      refine T.seq ?_
      refine T.regionL ?_
      refine mv rfl rfl rfl rfl rfl ?_
      refine sp rfl (OpT.nilCheck rfl (dl rfl rfl) rfl rfl ?_)
      refine sp rfl (OpT.fieldPtr rfl (dl rfl rfl) Try.underlying45 rfl i3 (by decide) rfl ?_)
      refine sp rfl (OpT.loadBox (i := 0) rfl (dl rfl rfl) Try.underlying3 rfl rfl rfl rfl ?_)
      refine mv rfl rfl rfl rfl rfl ?_
      refine sp rfl (OpT.int2 rfl rfl (dl rfl rfl) rfl rfl ?_)
      refine asg rfl rfl rfl rfl rfl ?_
      refine TL'.nil (thenS_normal ?_)
      refine T.seq ?_
      refine T.regionL ?_
      refine mv rfl rfl rfl rfl rfl ?_
      refine sp rfl (OpT.int2 rfl rfl (dl rfl rfl) rfl rfl ?_)
      refine mv rfl rfl rfl rfl rfl ?_
      rcases bif_some h with ⟨c_118, h⟩ | ⟨c_118, h⟩
      · refine TL'.passU (.off _ _ _ _ rfl rfl rfl c_118) (dl rfl rfl) ?_
        refine TL'.passU (.off _ _ _ _ rfl rfl rfl c_118) (dl rfl rfl) ?_
        refine TL'.passU (.off _ _ _ _ rfl rfl rfl c_118) (dl rfl rfl) ?_
        refine TL'.passU (.gone _ _ _ rfl rfl rfl) (dl rfl rfl) ?_
        refine TL'.passU (.gone _ _ _ rfl rfl rfl) (dl rfl rfl) ?_
        refine TL'.passU (.gone _ _ _ rfl rfl rfl) (dl rfl rfl) ?_
        refine TL'.passU (.gone _ _ _ rfl rfl rfl) (dl rfl rfl) ?_
        refine TL'.passU (.gone _ _ _ rfl rfl rfl) (dl rfl rfl) ?_
        refine TL'.passU (.gone _ _ _ rfl rfl rfl) (dl rfl rfl) ?_
        refine TL'.passU (.gone _ _ _ rfl rfl rfl) (dl rfl rfl) ?_
        refine TL'.passU (.off _ _ _ _ rfl rfl rfl c_118) (dl rfl rfl) ?_
        refine sp rfl (OpT.pickT rfl (dl rfl rfl) rfl c_118 rfl ?_)
        refine TL'.nil (thenS_normal ?_)
        refine T.condT rfl rfl ?_
        refine T.by_turn ?_ (syntax_reader_number_j1_T K bx0 ((syntax_parser.mk (syntax_reader.mk y0_0_0 y0_0_1 y0_0_2 y0_0_3) y0_0_4 y0_0_5).reader.s) ((syntax_parser.mk (syntax_reader.mk y0_0_0 y0_0_1 y0_0_2 y0_0_3) y0_0_4 y0_0_5).reader.at_) ((syntax_parser.mk (syntax_reader.mk y0_0_0 y0_0_1 y0_0_2 y0_0_3) y0_0_4 y0_0_5).reader.where_) ((syntax_parser.mk (syntax_reader.mk y0_0_0 y0_0_1 y0_0_2 y0_0_3) y0_0_4 y0_0_5).reader.e) ((syntax_parser.mk (syntax_reader.mk y0_0_0 y0_0_1 y0_0_2 y0_0_3) y0_0_4 y0_0_5).deep) ((syntax_parser.mk (syntax_reader.mk y0_0_0 y0_0_1 y0_0_2 y0_0_3) y0_0_4 y0_0_5).nodes) (γ_113 0) h)
        exact Turn.rp (.nil _) (.c .z (.c .z (.n _)))
      · refine TL'.step (.on rfl rfl rfl c_118) (OpT.move rfl (dl rfl rfl) rfl ?_)
        refine TL'.step (.on rfl rfl rfl c_118) (OpT.int2 rfl rfl (dl rfl rfl) rfl rfl ?_)
        refine TL'.step (.on rfl rfl rfl c_118) (OpT.move rfl (dl rfl rfl) rfl ?_)
        rcases bif_some h with ⟨c_119, h⟩ | ⟨c_119, h⟩
        · refine TL'.step (.on rfl rfl rfl c_119) (OpT.move rfl (dl rfl rfl) rfl ?_)
          refine TL'.step (.on rfl rfl rfl c_119) (OpT.nilCheck rfl (dl rfl rfl) rfl rfl ?_)
          refine TL'.step (.on rfl rfl rfl c_119) (OpT.fieldPtr rfl (dl rfl rfl) Try.underlying45 rfl i9 (by decide) rfl ?_)
          refine TL'.step (.on rfl rfl rfl c_119) (OpT.loadBox (i := 0) rfl (dl rfl rfl) Try.underlying9 rfl rfl rfl rfl ?_)
          refine TL'.step (.on rfl rfl rfl c_119) (OpT.move rfl (dl rfl rfl) rfl ?_)
          obtain ⟨g_120, h⟩ := ck_some h
          refine TL'.step (.on rfl rfl rfl c_119) (OpT.indexStr rfl (dl rfl rfl) Try.underlying9 rfl rfl g_120.1 g_120.2 ?_)
          refine TL'.step (.on rfl rfl rfl c_119) (OpT.int2 rfl rfl (dl rfl rfl) rfl rfl ?_)
          refine TL'.step (.on rfl rfl rfl c_118) (OpT.pickT rfl (dl rfl rfl) rfl c_119 rfl ?_)
          refine sp rfl (OpT.pickF rfl (dl rfl rfl) rfl c_118 rfl ?_)
          refine TL'.nil (thenS_normal ?_)
          rcases bif_some h with ⟨c_121, h⟩ | ⟨c_121, h⟩
          · refine T.condT rfl c_121 ?_
            refine T.by_turn ?_ (syntax_reader_number_j1_T K bx0 ((syntax_parser.mk (syntax_reader.mk y0_0_0 y0_0_1 y0_0_2 y0_0_3) y0_0_4 y0_0_5).reader.s) ((syntax_parser.mk (syntax_reader.mk y0_0_0 y0_0_1 y0_0_2 y0_0_3) y0_0_4 y0_0_5).reader.at_) ((syntax_parser.mk (syntax_reader.mk y0_0_0 y0_0_1 y0_0_2 y0_0_3) y0_0_4 y0_0_5).reader.where_) ((syntax_parser.mk (syntax_reader.mk y0_0_0 y0_0_1 y0_0_2 y0_0_3) y0_0_4 y0_0_5).reader.e) ((syntax_parser.mk (syntax_reader.mk y0_0_0 y0_0_1 y0_0_2 y0_0_3) y0_0_4 y0_0_5).deep) ((syntax_parser.mk (syntax_reader.mk y0_0_0 y0_0_1 y0_0_2 y0_0_3) y0_0_4 y0_0_5).nodes) (γ_113 0) h)
            exact Turn.rp (.nil _) (.c .z (.c .z (.n _)))
          · refine T.condF rfl c_121 ?_
            refine T.skip (thenS_normal ?_)
            refine T.seq ?_
            refine T.regionL ?_
            refine mv rfl rfl rfl rfl rfl ?_
            refine asg rfl rfl rfl rfl rfl ?_
            refine TL'.nil (thenS_normal ?_)
            refine T.ret ?_
            exact Fin.doneK (.cons _ _ _ _ (.tmp 2 _ rfl) .nil) (.cons 0 rfl (.cons 0 rfl (.nil _))) (by cases h; exact ⟨gl [γ_113 0], rfl, rfl⟩)
        · refine TL'.passU (.off _ _ _ _ rfl rfl rfl c_119) (dl rfl rfl) ?_
          refine TL'.passU (.off _ _ _ _ rfl rfl rfl c_119) (dl rfl rfl) ?_
          refine TL'.passU (.off _ _ _ _ rfl rfl rfl c_119) (dl rfl rfl) ?_
          refine TL'.passU (.off _ _ _ _ rfl rfl rfl c_119) (dl rfl rfl) ?_
          refine TL'.passU (.off _ _ _ _ rfl rfl rfl c_119) (dl rfl rfl) ?_
          refine TL'.passU (.off _ _ _ _ rfl rfl rfl c_119) (dl rfl rfl) ?_
          refine TL'.passU (.off _ _ _ _ rfl rfl rfl c_119) (dl rfl rfl) ?_
          refine TL'.step (.on rfl rfl rfl c_118) (OpT.pickF rfl (dl rfl rfl) rfl c_119 rfl ?_)
          refine sp rfl (OpT.pickF rfl (dl rfl rfl) rfl c_118 rfl ?_)
          refine TL'.nil (thenS_normal ?_)
          refine T.condF rfl rfl ?_
          refine T.skip (thenS_normal ?_)
          refine T.seq ?_
          refine T.regionL ?_
          refine mv rfl rfl rfl rfl rfl ?_
          refine asg rfl rfl rfl rfl rfl ?_
          refine TL'.nil (thenS_normal ?_)
          refine T.ret ?_
          exact Fin.doneK (.cons _ _ _ _ (.tmp 2 _ rfl) .nil) (.cons 0 rfl (.cons 0 rfl (.nil _))) (by cases h; exact ⟨gl [γ_113 0], rfl, rfl⟩)

theorem syntax_reader_number_T (K : Nat) {x0 : syntax_parser} {bx0 : Nat} {wx0c1 : Value} {r : Int × syntax_parser} (h : syntax_reader_number K x0 = some r) : CallG Try.prog 57 [.ptr bx0 (0 + 0)] [.box bx0 47 [.d (.str x0.reader.s), .d (.int .i64 x0.reader.at_), .d (.int .i64 x0.reader.where_), .d (.int .i64 x0.reader.e), .d (.ex wx0c1), .d (.int .i64 x0.deep)], .arrA wx0c1 36 9 (x0.nodes.map c_api_Node)] (fun γ => (.int .i64 r.1)) (fun γ => [.box bx0 47 [.d (.str r.2.reader.s), .d (.int .i64 r.2.reader.at_), .d (.int .i64 r.2.reader.where_), .d (.int .i64 r.2.reader.e), .d (.ex (γ 0)), .d (.int .i64 r.2.deep)], .arrA (γ 0) 36 9 (r.2.nodes.map c_api_Node)]) := by
  refine CallT.intro Try.func57 rfl (Nat.le_of_ble_eq_true rfl) ?_
  show T Try.prog 42 (Code.at [] (codeOf Try.f57)) ⟨paramSlots 0 [.ptr bx0 (0 + 0)], [.box bx0 47 [.d (.str x0.reader.s), .d (.int .i64 x0.reader.at_), .d (.int .i64 x0.reader.where_), .d (.int .i64 x0.reader.e), .d (.ex wx0c1), .d (.int .i64 x0.deep)], .arrA wx0c1 36 9 (x0.nodes.map c_api_Node)]⟩ (syntax_reader_number_q bx0 r)
  unfold syntax_reader_number at h
  refine T.seq ?_
  refine T.regionL ?_
  refine asg rfl rfl rfl rfl rfl ?_
  refine TL'.nil (thenS_normal ?_)
  refine T.seq ?_
  refine T.regionL ?_
  refine mv rfl rfl rfl rfl rfl ?_
  refine sp rfl (OpT.nilCheck rfl (dl rfl rfl) rfl rfl ?_)
  refine sp rfl (OpT.fieldPtr rfl (dl rfl rfl) Try.underlying45 rfl i3 (by decide) rfl ?_)
  refine sp rfl (OpT.loadBox (i := 0) rfl (dl rfl rfl) Try.underlying3 rfl rfl rfl rfl ?_)
  refine asg rfl rfl rfl rfl rfl ?_
  refine asg rfl rfl rfl rfl rfl ?_
  refine TL'.nil (thenS_normal ?_)
  refine T.seq ?_
  refine T.block ?_
  refine T.loop ?_
  refine TL.by_turn ?_ (syntax_reader_number_l0_T K bx0 K x0 (0 : Int) x0.reader.s x0.reader.at_ x0.reader.where_ x0.reader.e x0.deep x0.nodes wx0c1 h)
  exact Turn.rp (.cons rfl (.cons rfl (.cons rfl (.nil _)))) (.c .z (.c .z (.n _)))

abbrev syntax_reader_bounds_q (bx0 : Nat) (r : Int × Int × syntax_parser) : Exit → St → Prop := retS Try.prog Try.f51 (fun y t => ∃ γ : Nat → Value, y = (.tup [.int .i64 r.1, .int .i64 r.2.1]) ∧ t = [.box bx0 47 [.d (.str r.2.2.reader.s), .d (.int .i64 r.2.2.reader.at_), .d (.int .i64 r.2.2.reader.where_), .d (.int .i64 r.2.2.reader.e), .d (.ex (γ 0)), .d (.int .i64 r.2.2.deep)], .arrA (γ 0) 36 9 (r.2.2.nodes.map c_api_Node)])

abbrev syntax_reader_bounds_qs111111111 (bx0 : Nat) (r : Int × Int × syntax_parser) : Exit → St → Prop := thenS (fun s' => T Try.prog 76 (Code.at [1, 1, 1, 1, 1, 1, 1, 1, 1] (codeOf Try.f51)) s' ((syntax_reader_bounds_q bx0 r))) ((syntax_reader_bounds_q bx0 r))

abbrev syntax_reader_bounds_qb0x111111111 (bx0 : Nat) (r : Int × Int × syntax_parser) : Exit → St → Prop := inBlockS 0 ((syntax_reader_bounds_qs111111111 bx0 r))

theorem syntax_reader_bounds_j1_T {r : Int × Int × syntax_parser} (K : Nat) (bx0 : Nat) (x2_0_6 : Int) (x3_0_7 : Int) (y9000_1_2 : ByteArray) (y9000_1_3 : Int) (y9000_1_4 : Int) (y9000_1_5 : Int) (y9000_1_7 : Int) (y9000_1_6 : List api_Node) (w9000_1 : Value) (h : syntax_reader_bounds_j1 K x2_0_6 x3_0_7 y9000_1_2 y9000_1_3 y9000_1_4 y9000_1_5 y9000_1_7 y9000_1_6 = some r) : T Try.prog 76 (Code.at [1, 1, 1, 1, 1, 1, 1, 1, 1] (codeOf Try.f51)) ⟨[(2, .int .i64 x2_0_6), (3, .int .i64 x3_0_7)], [.box bx0 47 [.d (.str y9000_1_2), .d (.int .i64 y9000_1_3), .d (.int .i64 y9000_1_4), .d (.int .i64 y9000_1_5), .d (.ex w9000_1), .d (.int .i64 y9000_1_7)], .arrA w9000_1 36 9 (y9000_1_6.map c_api_Node)]⟩ (syntax_reader_bounds_q bx0 r) := by
  unfold syntax_reader_bounds_j1 at h
  refine T.seq ?_
  refine T.regionL ?_
  refine mv rfl rfl rfl rfl rfl ?_
  refine mv rfl rfl rfl rfl rfl ?_
  refine asg rfl rfl rfl rfl rfl ?_
  refine asg rfl rfl rfl rfl rfl ?_
  refine TL'.nil (thenS_normal ?_)
  refine T.ret ?_
  exact Fin.doneK (.cons _ _ _ _ (.tmp 2 _ rfl) (.cons _ _ _ _ (.tmp 3 _ rfl) .nil)) (.cons 0 rfl (.cons 0 rfl (.nil _))) (by cases h; exact ⟨gl [w9000_1], rfl, rfl⟩)

theorem syntax_reader_bounds_j2_T {r : Int × Int × syntax_parser} (K : Nat) (bx0 : Nat) (x2_0_6 : Int) (x3_0_7 : Int) (x0 : syntax_parser) (y0_2_0 : ByteArray) (y0_2_1 : Int) (y0_2_2 : Int) (y0_2_3 : Int) (y0_2_5 : Int) (y0_2_4 : List api_Node) (w0_2 : Value) (h : syntax_reader_bounds_j2 K x2_0_6 x3_0_7 x0 y0_2_0 y0_2_1 y0_2_2 y0_2_3 y0_2_5 y0_2_4 = some r) : T Try.prog 76 (Code.at [1, 1, 1, 1, 1, 1, 1, 1, 0, 1, 0, 1, 1, 1, 1, 1, 0] (codeOf Try.f51)) ⟨[(0, .ptr bx0 (0 + 0)), (2, .int .i64 x2_0_6), (3, .int .i64 x3_0_7), (4, .int .i64 x0.reader.at_)], [.box bx0 47 [.d (.str y0_2_0), .d (.int .i64 y0_2_1), .d (.int .i64 y0_2_2), .d (.int .i64 y0_2_3), .d (.ex w0_2), .d (.int .i64 y0_2_5)], .arrA w0_2 36 9 (y0_2_4.map c_api_Node)]⟩ (syntax_reader_bounds_qb0x111111111 bx0 r) := by
  unfold syntax_reader_bounds_j2 at h
  refine T.regionL ?_
  refine mv rfl rfl rfl rfl rfl ?_
  refine mv rfl rfl rfl rfl rfl ?_
  obtain ⟨v_308, e_309, h⟩ := bind_some h
  refine sp rfl (OpT.callG (is := [0, 1]) (ph := []) rfl (dl rfl rfl) Try.func20 rfl rfl (Args.cons rfl (Args.cons rfl (Args.cons rfl Args.nil))) (syntax_reader_fail_T K (bx0 := bx0) (wx0c1 := w0_2) e_309) (.cons rfl rfl (.cons rfl rfl (.nil))) (fun _ => rfl) (fun γ_310 => ?_))
  refine nm (.c (.c (.n))) ?_
  refine TL'.nil (inBlock_normal (thenS_normal ?_))
  refine T.by_turn ?_ (syntax_reader_bounds_j1_T K bx0 x2_0_6 x3_0_7 v_308.reader.s v_308.reader.at_ v_308.reader.where_ v_308.reader.e v_308.deep v_308.nodes (γ_310 0) h)
  exact Turn.rp (.cons rfl (.cons rfl (.nil _))) (.c .z (.c .z (.n _)))

theorem syntax_reader_bounds_j3_T {r : Int × Int × syntax_parser} (K : Nat) (bx0 : Nat) (x2_0_6 : Int) (x3_0_7 : Int) (y9000_3_2 : ByteArray) (y9000_3_3 : Int) (y9000_3_4 : Int) (y9000_3_5 : Int) (y9000_3_7 : Int) (y9000_3_6 : List api_Node) (w9000_3 : Value) (h : syntax_reader_bounds_j3 K x2_0_6 x3_0_7 y9000_3_2 y9000_3_3 y9000_3_4 y9000_3_5 y9000_3_7 y9000_3_6 = some r) : T Try.prog 76 (Code.at [1, 1, 1, 1, 1, 1, 1, 1, 0, 1, 0, 1, 1, 1, 1, 1, 1] (codeOf Try.f51)) ⟨[(2, .int .i64 x2_0_6), (3, .int .i64 x3_0_7)], [.box bx0 47 [.d (.str y9000_3_2), .d (.int .i64 y9000_3_3), .d (.int .i64 y9000_3_4), .d (.int .i64 y9000_3_5), .d (.ex w9000_3), .d (.int .i64 y9000_3_7)], .arrA w9000_3 36 9 (y9000_3_6.map c_api_Node)]⟩ (syntax_reader_bounds_qb0x111111111 bx0 r) := by
  unfold syntax_reader_bounds_j3 at h
  refine T.skip (inBlock_normal (thenS_normal ?_))
  refine T.by_turn ?_ (syntax_reader_bounds_j1_T K bx0 x2_0_6 x3_0_7 y9000_3_2 y9000_3_3 y9000_3_4 y9000_3_5 y9000_3_7 y9000_3_6 w9000_3 h)
  exact Turn.rp (.cons rfl (.cons rfl (.nil _))) (.c .z (.c .z (.n _)))

theorem syntax_reader_bounds_j0_T {r : Int × Int × syntax_parser} (K : Nat) (bx0 : Nat) (x2_0_6 : Int) (x3_0_7 : Int) (x0 : syntax_parser) (x5_0_9 : Bool) (y0_0_0 : ByteArray) (y0_0_1 : Int) (y0_0_2 : Int) (y0_0_3 : Int) (y0_0_5 : Int) (y0_0_4 : List api_Node) (w0_0 : Value) (h : syntax_reader_bounds_j0 K x2_0_6 x3_0_7 x0 x5_0_9 y0_0_0 y0_0_1 y0_0_2 y0_0_3 y0_0_5 y0_0_4 = some r) : T Try.prog 76 (Code.at [1, 1, 1, 1, 1, 1, 1] (codeOf Try.f51)) ⟨[(0, .ptr bx0 (0 + 0)), (2, .int .i64 x2_0_6), (3, .int .i64 x3_0_7), (4, .int .i64 x0.reader.at_), (5, .bool x5_0_9)], [.box bx0 47 [.d (.str y0_0_0), .d (.int .i64 y0_0_1), .d (.int .i64 y0_0_2), .d (.int .i64 y0_0_3), .d (.ex w0_0), .d (.int .i64 y0_0_5)], .arrA w0_0 36 9 (y0_0_4.map c_api_Node)]⟩ (syntax_reader_bounds_q bx0 r) := by
  unfold syntax_reader_bounds_j0 at h
  refine T.seq ?_
  refine T.regionL ?_
  refine mv rfl rfl rfl rfl rfl ?_
  refine sp rfl (OpT.nilCheck rfl (dl rfl rfl) rfl rfl ?_)
  refine sp rfl (OpT.fieldPtr rfl (dl rfl rfl) Try.underlying45 rfl i3 (by decide) rfl ?_)
  refine sp rfl (OpT.loadBox (i := 0) rfl (dl rfl rfl) Try.underlying3 rfl rfl rfl rfl ?_)
  refine asg rfl rfl rfl rfl rfl ?_
  refine TL'.nil (thenS_normal ?_)
  refine T.seq ?_
  refine T.seq ?_
  refine T.regionL ?_
  refine mv rfl rfl rfl rfl rfl ?_
  obtain ⟨v_299, e_300, h⟩ := bind_some h
  refine sp rfl (OpT.callG (is := [0, 1]) (ph := []) rfl (dl rfl rfl) Try.func44 rfl rfl (Args.cons rfl Args.nil) (syntax_reader_next_T K (bx0 := bx0) (wx0c1 := w0_0) e_300) (.cons rfl rfl (.cons rfl rfl (.nil))) (fun _ => rfl) (fun γ_301 => ?_))
  refine nm (.c (.c (.n))) ?_
  refine asg rfl rfl rfl rfl rfl ?_
  refine TL'.nil (thenS_normal ?_)
  refine T.block ?_
  refine T.seq ?_
  refine T.regionL ?_
  refine mv rfl rfl rfl rfl rfl ?_
  refine sp rfl (OpT.nilCheck rfl (dl rfl rfl) rfl rfl ?_)
  refine sp rfl (OpT.fieldPtr rfl (dl rfl rfl) Try.underlying45 rfl i24 (by decide) rfl ?_)
  refine sp rfl (OpT.loadBox (i := 0) rfl (dl rfl rfl) Try.underlying24 rfl rfl rfl rfl ?_)
  refine sp rfl (OpT.int2 rfl rfl (dl rfl rfl) rfl rfl ?_)
  refine asg rfl rfl rfl rfl rfl ?_
  refine TL'.nil (thenS_normal ?_)
  rcases bif_some h with ⟨c_302, h⟩ | ⟨c_302, h⟩
  · refine T.condT rfl c_302 ?_
    refine T.skip (inBlock_normal (thenS_normal ?_))
    refine T.by_turn ?_ (syntax_reader_bounds_j1_T K bx0 x2_0_6 x3_0_7 v_299.2.reader.s v_299.2.reader.at_ v_299.2.reader.where_ v_299.2.reader.e v_299.2.deep v_299.2.nodes (γ_301 0) h)
    exact Turn.rp (.cons rfl (.cons rfl (.nil _))) (.c .z (.c .z (.n _)))
  · refine T.condF rfl c_302 ?_
    refine T.seq ?_
    refine T.regionL ?_
    refine mv rfl rfl rfl rfl rfl ?_
    refine sp rfl (OpT.int2 rfl rfl (dl rfl rfl) rfl rfl ?_)
    refine asg rfl rfl rfl rfl rfl ?_
    refine TL'.nil (thenS_normal ?_)
    rcases bif_some h with ⟨c_303, h⟩ | ⟨c_303, h⟩
    · refine T.condT rfl c_303 ?_
      refine T.regionL ?_
      refine mv rfl rfl rfl rfl rfl ?_
      refine mv rfl rfl rfl rfl rfl ?_
      obtain ⟨v_304, e_305, h⟩ := bind_some h
      refine sp rfl (OpT.callG (is := [0, 1]) (ph := []) rfl (dl rfl rfl) Try.func20 rfl rfl (Args.cons rfl (Args.cons rfl (Args.cons rfl Args.nil))) (syntax_reader_fail_T K (bx0 := bx0) (wx0c1 := (γ_301 0)) e_305) (.cons rfl rfl (.cons rfl rfl (.nil))) (fun _ => rfl) (fun γ_306 => ?_))
      refine nm (.c (.c (.n))) ?_
      refine TL'.nil (inBlock_normal (thenS_normal ?_))
      refine T.by_turn ?_ (syntax_reader_bounds_j1_T K bx0 x2_0_6 x3_0_7 v_304.reader.s v_304.reader.at_ v_304.reader.where_ v_304.reader.e v_304.deep v_304.nodes (γ_306 0) h)
      exact Turn.rp (.cons rfl (.cons rfl (.nil _))) (.c .z (.c .z (.n _)))
    · refine T.condF rfl c_303 ?_
      refine T.seq ?_
      refine T.regionL ?_
      refine mv rfl rfl rfl rfl rfl ?_
      refine mv rfl rfl rfl rfl rfl ?_
      rcases bif_some h with ⟨c_307, h⟩ | ⟨c_307, h⟩
      · refine TL'.passU (.off _ _ _ _ rfl rfl rfl c_307) (dl rfl rfl) ?_
        refine TL'.passU (.off _ _ _ _ rfl rfl rfl c_307) (dl rfl rfl) ?_
        refine sp rfl (OpT.pickT rfl (dl rfl rfl) rfl c_307 rfl ?_)
        refine mv rfl rfl rfl rfl rfl ?_
        refine TL'.passU (.off _ _ _ _ rfl rfl rfl rfl) (dl rfl rfl) ?_
        refine TL'.passU (.off _ _ _ _ rfl rfl rfl rfl) (dl rfl rfl) ?_
        refine sp rfl (OpT.pickT rfl (dl rfl rfl) rfl rfl rfl ?_)
        refine mv rfl rfl rfl rfl rfl ?_
        refine TL'.passU (.off _ _ _ _ rfl rfl rfl rfl) (dl rfl rfl) ?_
        refine TL'.passU (.off _ _ _ _ rfl rfl rfl rfl) (dl rfl rfl) ?_
        refine sp rfl (OpT.pickT rfl (dl rfl rfl) rfl rfl rfl ?_)
        refine mv rfl rfl rfl rfl rfl ?_
        refine TL'.passU (.off _ _ _ _ rfl rfl rfl rfl) (dl rfl rfl) ?_
        refine TL'.passU (.off _ _ _ _ rfl rfl rfl rfl) (dl rfl rfl) ?_
        refine TL'.passU (.off _ _ _ _ rfl rfl rfl rfl) (dl rfl rfl) ?_
        refine TL'.passU (.gone _ _ _ rfl rfl rfl) (dl rfl rfl) ?_
        refine TL'.passU (.gone _ _ _ rfl rfl rfl) (dl rfl rfl) ?_
        refine TL'.passU (.gone _ _ _ rfl rfl rfl) (dl rfl rfl) ?_
        refine TL'.passU (.off _ _ _ _ rfl rfl rfl rfl) (dl rfl rfl) ?_
        refine sp rfl (OpT.pickT rfl (dl rfl rfl) rfl rfl rfl ?_)
        refine asg rfl rfl rfl rfl rfl ?_
        refine TL'.nil (thenS_normal ?_)
        refine T.condT rfl rfl ?_
        refine T.by_turn ?_ (syntax_reader_bounds_j2_T K bx0 x2_0_6 x3_0_7 x0 v_299.2.reader.s v_299.2.reader.at_ v_299.2.reader.where_ v_299.2.reader.e v_299.2.deep v_299.2.nodes (γ_301 0) h)
        exact Turn.rp (.cons rfl (.cons rfl (.cons rfl (.cons rfl (.nil _))))) (.c .z (.c .z (.n _)))
      · refine TL'.step (.on rfl rfl rfl c_307) (OpT.move rfl (dl rfl rfl) rfl ?_)
        refine TL'.step (.on rfl rfl rfl c_307) (OpT.int2 rfl rfl (dl rfl rfl) rfl rfl ?_)
        refine sp rfl (OpT.pickF rfl (dl rfl rfl) rfl c_307 rfl ?_)
        refine mv rfl rfl rfl rfl rfl ?_
        rcases bif_some h with ⟨c_311, h⟩ | ⟨c_311, h⟩
        · refine TL'.passU (.off _ _ _ _ rfl rfl rfl c_311) (dl rfl rfl) ?_
          refine TL'.passU (.off _ _ _ _ rfl rfl rfl c_311) (dl rfl rfl) ?_
          refine sp rfl (OpT.pickT rfl (dl rfl rfl) rfl c_311 rfl ?_)
          refine mv rfl rfl rfl rfl rfl ?_
          refine TL'.passU (.off _ _ _ _ rfl rfl rfl rfl) (dl rfl rfl) ?_
          refine TL'.passU (.off _ _ _ _ rfl rfl rfl rfl) (dl rfl rfl) ?_
          refine sp rfl (OpT.pickT rfl (dl rfl rfl) rfl rfl rfl ?_)
          refine mv rfl rfl rfl rfl rfl ?_
          refine TL'.passU (.off _ _ _ _ rfl rfl rfl rfl) (dl rfl rfl) ?_
          refine TL'.passU (.off _ _ _ _ rfl rfl rfl rfl) (dl rfl rfl) ?_
          refine TL'.passU (.off _ _ _ _ rfl rfl rfl rfl) (dl rfl rfl) ?_
          refine TL'.passU (.gone _ _ _ rfl rfl rfl) (dl rfl rfl) ?_
          refine TL'.passU (.gone _ _ _ rfl rfl rfl) (dl rfl rfl) ?_
          refine TL'.passU (.gone _ _ _ rfl rfl rfl) (dl rfl rfl) ?_
          refine TL'.passU (.off _ _ _ _ rfl rfl rfl rfl) (dl rfl rfl) ?_
          refine sp rfl (OpT.pickT rfl (dl rfl rfl) rfl rfl rfl ?_)
          refine asg rfl rfl rfl rfl rfl ?_
          refine TL'.nil (thenS_normal ?_)
          refine T.condT rfl rfl ?_
          refine T.by_turn ?_ (syntax_reader_bounds_j2_T K bx0 x2_0_6 x3_0_7 x0 v_299.2.reader.s v_299.2.reader.at_ v_299.2.reader.where_ v_299.2.reader.e v_299.2.deep v_299.2.nodes (γ_301 0) h)
          exact Turn.rp (.cons rfl (.cons rfl (.cons rfl (.cons rfl (.nil _))))) (.c .z (.c .z (.n _)))
        · refine TL'.step (.on rfl rfl rfl c_311) (OpT.move rfl (dl rfl rfl) rfl ?_)
          refine TL'.step (.on rfl rfl rfl c_311) (OpT.int2 rfl rfl (dl rfl rfl) rfl rfl ?_)
          refine sp rfl (OpT.pickF rfl (dl rfl rfl) rfl c_311 rfl ?_)
          refine mv rfl rfl rfl rfl rfl ?_
          rcases bif_some h with ⟨c_312, h⟩ | ⟨c_312, h⟩
          · refine TL'.passU (.off _ _ _ _ rfl rfl rfl c_312) (dl rfl rfl) ?_
            refine TL'.passU (.off _ _ _ _ rfl rfl rfl c_312) (dl rfl rfl) ?_
            refine sp rfl (OpT.pickT rfl (dl rfl rfl) rfl c_312 rfl ?_)
            refine mv rfl rfl rfl rfl rfl ?_
            refine TL'.passU (.off _ _ _ _ rfl rfl rfl rfl) (dl rfl rfl) ?_
            refine TL'.passU (.off _ _ _ _ rfl rfl rfl rfl) (dl rfl rfl) ?_
            refine TL'.passU (.off _ _ _ _ rfl rfl rfl rfl) (dl rfl rfl) ?_
            refine TL'.passU (.gone _ _ _ rfl rfl rfl) (dl rfl rfl) ?_
            refine TL'.passU (.gone _ _ _ rfl rfl rfl) (dl rfl rfl) ?_
            refine TL'.passU (.gone _ _ _ rfl rfl rfl) (dl rfl rfl) ?_
            refine TL'.passU (.off _ _ _ _ rfl rfl rfl rfl) (dl rfl rfl) ?_
            refine sp rfl (OpT.pickT rfl (dl rfl rfl) rfl rfl rfl ?_)
            refine asg rfl rfl rfl rfl rfl ?_
            refine TL'.nil (thenS_normal ?_)
            refine T.condT rfl rfl ?_
            refine T.by_turn ?_ (syntax_reader_bounds_j2_T K bx0 x2_0_6 x3_0_7 x0 v_299.2.reader.s v_299.2.reader.at_ v_299.2.reader.where_ v_299.2.reader.e v_299.2.deep v_299.2.nodes (γ_301 0) h)
            exact Turn.rp (.cons rfl (.cons rfl (.cons rfl (.cons rfl (.nil _))))) (.c .z (.c .z (.n _)))
          · refine TL'.step (.on rfl rfl rfl c_312) (OpT.move rfl (dl rfl rfl) rfl ?_)
            refine TL'.step (.on rfl rfl rfl c_312) (OpT.int2 rfl rfl (dl rfl rfl) rfl rfl ?_)
            refine sp rfl (OpT.pickF rfl (dl rfl rfl) rfl c_312 rfl ?_)
            refine mv rfl rfl rfl rfl rfl ?_
            rcases bif_some h with ⟨c_313, h⟩ | ⟨c_313, h⟩
            · refine TL'.passU (.off _ _ _ _ rfl rfl rfl c_313) (dl rfl rfl) ?_
              refine TL'.passU (.off _ _ _ _ rfl rfl rfl c_313) (dl rfl rfl) ?_
              refine TL'.passU (.off _ _ _ _ rfl rfl rfl c_313) (dl rfl rfl) ?_
              refine TL'.passU (.gone _ _ _ rfl rfl rfl) (dl rfl rfl) ?_
              refine TL'.passU (.gone _ _ _ rfl rfl rfl) (dl rfl rfl) ?_
              refine TL'.passU (.gone _ _ _ rfl rfl rfl) (dl rfl rfl) ?_
              refine TL'.passU (.off _ _ _ _ rfl rfl rfl c_313) (dl rfl rfl) ?_
              refine sp rfl (OpT.pickT rfl (dl rfl rfl) rfl c_313 rfl ?_)
              refine asg rfl rfl rfl rfl rfl ?_
              refine TL'.nil (thenS_normal ?_)
              refine T.condT rfl rfl ?_
              refine T.by_turn ?_ (syntax_reader_bounds_j2_T K bx0 x2_0_6 x3_0_7 x0 v_299.2.reader.s v_299.2.reader.at_ v_299.2.reader.where_ v_299.2.reader.e v_299.2.deep v_299.2.nodes (γ_301 0) h)
              exact Turn.rp (.cons rfl (.cons rfl (.cons rfl (.cons rfl (.nil _))))) (.c .z (.c .z (.n _)))
            · refine TL'.step (.on rfl rfl rfl c_313) (OpT.move rfl (dl rfl rfl) rfl ?_)
              refine TL'.step (.on rfl rfl rfl c_313) (OpT.int2 rfl rfl (dl rfl rfl) rfl rfl ?_)
              refine TL'.step (.on rfl rfl rfl c_313) (OpT.move rfl (dl rfl rfl) rfl ?_)
              rcases bif_some h with ⟨c_314, h⟩ | ⟨c_314, h⟩
              · refine TL'.step (.on rfl rfl rfl c_314) (OpT.move rfl (dl rfl rfl) rfl ?_)
                refine TL'.step (.on rfl rfl rfl c_314) (OpT.move rfl (dl rfl rfl) rfl ?_)
                refine TL'.step (.on rfl rfl rfl c_314) (OpT.int2 rfl rfl (dl rfl rfl) rfl rfl ?_)
                refine TL'.step (.on rfl rfl rfl c_313) (OpT.pickT rfl (dl rfl rfl) rfl c_314 rfl ?_)
                refine sp rfl (OpT.pickF rfl (dl rfl rfl) rfl c_313 rfl ?_)
                refine asg rfl rfl rfl rfl rfl ?_
                refine TL'.nil (thenS_normal ?_)
                rcases bif_some h with ⟨c_315, h⟩ | ⟨c_315, h⟩
                · refine T.condT rfl c_315 ?_
                  refine T.by_turn ?_ (syntax_reader_bounds_j2_T K bx0 x2_0_6 x3_0_7 x0 v_299.2.reader.s v_299.2.reader.at_ v_299.2.reader.where_ v_299.2.reader.e v_299.2.deep v_299.2.nodes (γ_301 0) h)
                  exact Turn.rp (.cons rfl (.cons rfl (.cons rfl (.cons rfl (.nil _))))) (.c .z (.c .z (.n _)))
                · refine T.condF rfl c_315 ?_
                  refine T.by_turn ?_ (syntax_reader_bounds_j3_T K bx0 x2_0_6 x3_0_7 v_299.2.reader.s v_299.2.reader.at_ v_299.2.reader.where_ v_299.2.reader.e v_299.2.deep v_299.2.nodes (γ_301 0) h)
                  exact Turn.rp (.cons rfl (.cons rfl (.nil _))) (.c .z (.c .z (.n _)))
              · refine TL'.passU (.off _ _ _ _ rfl rfl rfl c_314) (dl rfl rfl) ?_
                refine TL'.passU (.off _ _ _ _ rfl rfl rfl c_314) (dl rfl rfl) ?_
                refine TL'.passU (.off _ _ _ _ rfl rfl rfl c_314) (dl rfl rfl) ?_
                refine TL'.step (.on rfl rfl rfl c_313) (OpT.pickF rfl (dl rfl rfl) rfl c_314 rfl ?_)
                refine sp rfl (OpT.pickF rfl (dl rfl rfl) rfl c_313 rfl ?_)
                refine asg rfl rfl rfl rfl rfl ?_
                refine TL'.nil (thenS_normal ?_)
                refine T.condF rfl rfl ?_
                refine T.by_turn ?_ (syntax_reader_bounds_j3_T K bx0 x2_0_6 x3_0_7 v_299.2.reader.s v_299.2.reader.at_ v_299.2.reader.where_ v_299.2.reader.e v_299.2.deep v_299.2.nodes (γ_301 0) h)
                exact Turn.rp (.cons rfl (.cons rfl (.nil _))) (.c .z (.c .z (.n _)))

theorem syntax_reader_bounds_T (K : Nat) {x0 : syntax_parser} {bx0 : Nat} {wx0c1 : Value} {r : Int × Int × syntax_parser} (h : syntax_reader_bounds K x0 = some r) : CallG Try.prog 51 [.ptr bx0 (0 + 0)] [.box bx0 47 [.d (.str x0.reader.s), .d (.int .i64 x0.reader.at_), .d (.int .i64 x0.reader.where_), .d (.int .i64 x0.reader.e), .d (.ex wx0c1), .d (.int .i64 x0.deep)], .arrA wx0c1 36 9 (x0.nodes.map c_api_Node)] (fun γ => (.tup [.int .i64 r.1, .int .i64 r.2.1])) (fun γ => [.box bx0 47 [.d (.str r.2.2.reader.s), .d (.int .i64 r.2.2.reader.at_), .d (.int .i64 r.2.2.reader.where_), .d (.int .i64 r.2.2.reader.e), .d (.ex (γ 0)), .d (.int .i64 r.2.2.deep)], .arrA (γ 0) 36 9 (r.2.2.nodes.map c_api_Node)]) := by
  refine CallT.intro Try.func51 rfl (Nat.le_of_ble_eq_true rfl) ?_
  show T Try.prog 76 (Code.at [] (codeOf Try.f51)) ⟨paramSlots 0 [.ptr bx0 (0 + 0)], [.box bx0 47 [.d (.str x0.reader.s), .d (.int .i64 x0.reader.at_), .d (.int .i64 x0.reader.where_), .d (.int .i64 x0.reader.e), .d (.ex wx0c1), .d (.int .i64 x0.deep)], .arrA wx0c1 36 9 (x0.nodes.map c_api_Node)]⟩ (syntax_reader_bounds_q bx0 r)
  unfold syntax_reader_bounds at h
  refine T.seq ?_
  refine T.regionL ?_
  refine asg rfl rfl rfl rfl rfl ?_
  refine asg rfl rfl rfl rfl rfl ?_
  refine TL'.nil (thenS_normal ?_)
  refine T.seq ?_
  refine T.regionL ?_
  refine mv rfl rfl rfl rfl rfl ?_
  refine sp rfl (OpT.nilCheck rfl (dl rfl rfl) rfl rfl ?_)
  refine sp rfl (OpT.fieldPtr rfl (dl rfl rfl) Try.underlying45 rfl i3 (by decide) rfl ?_)
  refine sp rfl (OpT.loadBox (i := 0) rfl (dl rfl rfl) Try.underlying3 rfl rfl rfl rfl ?_)
  refine asg rfl rfl rfl rfl rfl ?_
  refine TL'.nil (thenS_normal ?_)
  refine T.seq ?_
  refine T.regionL ?_
  refine mv rfl rfl rfl rfl rfl ?_
  obtain ⟨v_281, e_282, h⟩ := bind_some h
  refine sp rfl (OpT.callG (is := [0, 1]) (ph := []) rfl (dl rfl rfl) Try.func44 rfl rfl (Args.cons rfl Args.nil) (syntax_reader_next_T K (bx0 := bx0) (wx0c1 := wx0c1) e_282) (.cons rfl rfl (.cons rfl rfl (.nil))) (fun _ => rfl) (fun γ_283 => ?_))
  refine nm (.c (.c (.n))) ?_
  refine TL'.nil (thenS_normal ?_)
  refine T.seq ?_
  refine T.regionL ?_
  refine mv rfl rfl rfl rfl rfl ?_
  obtain ⟨v_284, e_285, h⟩ := bind_some h
  refine sp rfl (OpT.callG (is := [0, 1]) (ph := []) rfl (dl rfl rfl) Try.func57 rfl rfl (Args.cons rfl Args.nil) (syntax_reader_number_T K (bx0 := bx0) (wx0c1 := (γ_283 0)) e_285) (.cons rfl rfl (.cons rfl rfl (.nil))) (fun _ => rfl) (fun γ_286 => ?_))
  refine nm (.c (.c (.n))) ?_
  refine asg rfl rfl rfl rfl rfl ?_
  refine TL'.nil (thenS_normal ?_)
  refine T.seq ?_
  refine T.regionL ?_
  refine mv rfl rfl rfl rfl rfl ?_
  refine asg rfl rfl rfl rfl rfl ?_
  refine TL'.nil (thenS_normal ?_)
  refine T.seq ?_
  refine T.regionL ?_
  refine mv rfl rfl rfl rfl rfl ?_
  refine sp rfl (OpT.int2 rfl rfl (dl rfl rfl) rfl rfl ?_)
  refine asg rfl rfl rfl rfl rfl ?_
  refine TL'.nil (thenS_normal ?_)
  refine T.seq ?_
  refine T.seq ?_
  refine T.regionL ?_
  refine mv rfl rfl rfl rfl rfl ?_
  obtain ⟨v_287, e_288, h⟩ := bind_some h
  refine sp rfl (OpT.callG (is := [0, 1]) (ph := []) rfl (dl rfl rfl) Try.func29 rfl rfl (Args.cons rfl (Args.cons rfl Args.nil)) (syntax_reader_skip_T K (bx0 := bx0) (wx0c1 := (γ_286 0)) e_288) (.cons rfl rfl (.cons rfl rfl (.nil))) (fun _ => rfl) (fun γ_289 => ?_))
  refine nm (.c (.c (.n))) ?_
  refine TL'.nil (thenS_normal ?_)
  rcases bif_some h with ⟨c_290, h⟩ | ⟨c_290, h⟩
  · refine T.condT rfl c_290 ?_
    refine T.seq ?_
    refine T.regionL ?_
    refine asg rfl rfl rfl rfl rfl ?_
    refine TL'.nil (thenS_normal ?_)
    refine T.seq ?_
    refine T.regionL ?_
    refine mv rfl rfl rfl rfl rfl ?_
    obtain ⟨v_291, e_292, h⟩ := bind_some h
    refine sp rfl (OpT.callG (is := [0, 1]) (ph := []) rfl (dl rfl rfl) Try.func47 rfl rfl (Args.cons rfl (Args.cons rfl Args.nil)) (syntax_reader_digit_T K (bx0 := bx0) (wx0c1 := (γ_289 0)) e_292) (.cons rfl rfl (.cons rfl rfl (.nil))) (fun _ => rfl) (fun γ_293 => ?_))
    refine nm (.c (.c (.n))) ?_
    refine TL'.nil (thenS_normal ?_)
    rcases bif_some h with ⟨c_294, h⟩ | ⟨c_294, h⟩
    · refine T.condT rfl c_294 ?_
      refine T.seq ?_
      refine T.regionL ?_
      refine mv rfl rfl rfl rfl rfl ?_
      obtain ⟨v_295, e_296, h⟩ := bind_some h
      refine sp rfl (OpT.callG (is := [0, 1]) (ph := []) rfl (dl rfl rfl) Try.func57 rfl rfl (Args.cons rfl Args.nil) (syntax_reader_number_T K (bx0 := bx0) (wx0c1 := (γ_293 0)) e_296) (.cons rfl rfl (.cons rfl rfl (.nil))) (fun _ => rfl) (fun γ_297 => ?_))
      refine nm (.c (.c (.n))) ?_
      refine asg rfl rfl rfl rfl rfl ?_
      refine TL'.nil (thenS_normal ?_)
      refine T.regionL ?_
      refine mv rfl rfl rfl rfl rfl ?_
      refine mv rfl rfl rfl rfl rfl ?_
      rcases bif_some h with ⟨c_298, h⟩ | ⟨c_298, h⟩
      · refine TL'.passU (.off _ _ _ _ rfl rfl rfl c_298) (dl rfl rfl) ?_
        refine TL'.passU (.off _ _ _ _ rfl rfl rfl c_298) (dl rfl rfl) ?_
        refine sp rfl (OpT.pickT rfl (dl rfl rfl) rfl c_298 rfl ?_)
        refine asg rfl rfl rfl rfl rfl ?_
        refine TL'.nil (thenS_normal ?_)
        refine T.by_turn ?_ (syntax_reader_bounds_j0_T K bx0 v_284.1 v_295.1 x0 true v_295.2.reader.s v_295.2.reader.at_ v_295.2.reader.where_ v_295.2.reader.e v_295.2.deep v_295.2.nodes (γ_297 0) h)
        exact Turn.rp (.cons rfl (.cons rfl (.cons rfl (.cons rfl (.cons rfl (.nil _)))))) (.c .z (.c .z (.n _)))
      · refine TL'.step (.on rfl rfl rfl c_298) (OpT.move rfl (dl rfl rfl) rfl ?_)
        refine TL'.step (.on rfl rfl rfl c_298) (OpT.int2 rfl rfl (dl rfl rfl) rfl rfl ?_)
        refine sp rfl (OpT.pickF rfl (dl rfl rfl) rfl c_298 rfl ?_)
        refine asg rfl rfl rfl rfl rfl ?_
        refine TL'.nil (thenS_normal ?_)
        refine T.by_turn ?_ (syntax_reader_bounds_j0_T K bx0 v_284.1 v_295.1 x0 (decide (v_295.1 < (0 : Int))) v_295.2.reader.s v_295.2.reader.at_ v_295.2.reader.where_ v_295.2.reader.e v_295.2.deep v_295.2.nodes (γ_297 0) h)
        exact Turn.rp (.cons rfl (.cons rfl (.cons rfl (.cons rfl (.cons rfl (.nil _)))))) (.c .z (.c .z (.n _)))
    · refine T.condF rfl c_294 ?_
      refine T.skip (thenS_normal ?_)
      refine T.by_turn ?_ (syntax_reader_bounds_j0_T K bx0 v_284.1 (-1 : Int) x0 (decide (v_284.1 < (0 : Int))) v_287.2.reader.s v_287.2.reader.at_ v_287.2.reader.where_ v_287.2.reader.e v_287.2.deep v_287.2.nodes (γ_293 0) h)
      exact Turn.rp (.cons rfl (.cons rfl (.cons rfl (.cons rfl (.cons rfl (.nil _)))))) (.c .z (.c .z (.n _)))
  · refine T.condF rfl c_290 ?_
    refine T.skip (thenS_normal ?_)
    refine T.by_turn ?_ (syntax_reader_bounds_j0_T K bx0 v_284.1 v_284.1 x0 (decide (v_284.1 < (0 : Int))) v_287.2.reader.s v_287.2.reader.at_ v_287.2.reader.where_ v_287.2.reader.e v_287.2.deep v_287.2.nodes (γ_289 0) h)
    exact Turn.rp (.cons rfl (.cons rfl (.cons rfl (.cons rfl (.cons rfl (.nil _)))))) (.c .z (.c .z (.n _)))

abbrev syntax_parser_times_q (bx0 : Nat) (r : Int × Int × Bool × syntax_parser) : Exit → St → Prop := retS Try.prog Try.f40 (fun y t => ∃ γ : Nat → Value, y = (.tup [.int .i64 r.1, .int .i64 r.2.1, .bool r.2.2.1]) ∧ t = [.box bx0 47 [.d (.str r.2.2.2.reader.s), .d (.int .i64 r.2.2.2.reader.at_), .d (.int .i64 r.2.2.2.reader.where_), .d (.int .i64 r.2.2.2.reader.e), .d (.ex (γ 0)), .d (.int .i64 r.2.2.2.deep)], .arrA (γ 0) 36 9 (r.2.2.2.nodes.map c_api_Node)])

abbrev syntax_parser_times_qs11 (bx0 : Nat) (r : Int × Int × Bool × syntax_parser) : Exit → St → Prop := thenS (fun s' => T Try.prog 40 (Code.at [1, 1] (codeOf Try.f40)) s' ((syntax_parser_times_q bx0 r))) ((syntax_parser_times_q bx0 r))

abbrev syntax_parser_times_qb0x11 (bx0 : Nat) (r : Int × Int × Bool × syntax_parser) : Exit → St → Prop := inBlockS 0 ((syntax_parser_times_qs11 bx0 r))

theorem syntax_parser_times_j0_T {r : Int × Int × Bool × syntax_parser} (K : Nat) (bx0 : Nat) (y9000_0_0 : ByteArray) (y9000_0_1 : Int) (y9000_0_2 : Int) (y9000_0_3 : Int) (y9000_0_5 : Int) (y9000_0_4 : List api_Node) (w9000_0 : Value) (h : syntax_parser_times_j0 K y9000_0_0 y9000_0_1 y9000_0_2 y9000_0_3 y9000_0_5 y9000_0_4 = some r) : T Try.prog 40 (Code.at [1, 0, 0, 1, 1, 1, 1, 1, 1, 1, 1] (codeOf Try.f40)) ⟨[], [.box bx0 47 [.d (.str y9000_0_0), .d (.int .i64 y9000_0_1), .d (.int .i64 y9000_0_2), .d (.int .i64 y9000_0_3), .d (.ex w9000_0), .d (.int .i64 y9000_0_5)], .arrA w9000_0 36 9 (y9000_0_4.map c_api_Node)]⟩ (syntax_parser_times_qb0x11 bx0 r) := by
  unfold syntax_parser_times_j0 at h
  refine T.skip (inBlock_normal (thenS_normal ?_))
  refine T.seq ?_
  refine T.regionL ?_
  refine asg rfl rfl rfl rfl rfl ?_
  refine asg rfl rfl rfl rfl rfl ?_
  refine asg rfl rfl rfl rfl rfl ?_
  refine TL'.nil (thenS_normal ?_)
  refine T.ret ?_
  exact Fin.doneK (.cons _ _ _ _ (.tmp 2 _ rfl) (.cons _ _ _ _ (.tmp 3 _ rfl) (.cons _ _ _ _ (.tmp 4 _ rfl) .nil))) (.cons 0 rfl (.cons 0 rfl (.nil _))) (by cases h; exact ⟨gl [w9000_0], rfl, rfl⟩)

theorem syntax_parser_times_T (K : Nat) {x0 : syntax_parser} {bx0 : Nat} {wx0c1 : Value} {r : Int × Int × Bool × syntax_parser} (h : syntax_parser_times K x0 = some r) : CallG Try.prog 40 [.ptr bx0 0] [.box bx0 47 [.d (.str x0.reader.s), .d (.int .i64 x0.reader.at_), .d (.int .i64 x0.reader.where_), .d (.int .i64 x0.reader.e), .d (.ex wx0c1), .d (.int .i64 x0.deep)], .arrA wx0c1 36 9 (x0.nodes.map c_api_Node)] (fun γ => (.tup [.int .i64 r.1, .int .i64 r.2.1, .bool r.2.2.1])) (fun γ => [.box bx0 47 [.d (.str r.2.2.2.reader.s), .d (.int .i64 r.2.2.2.reader.at_), .d (.int .i64 r.2.2.2.reader.where_), .d (.int .i64 r.2.2.2.reader.e), .d (.ex (γ 0)), .d (.int .i64 r.2.2.2.deep)], .arrA (γ 0) 36 9 (r.2.2.2.nodes.map c_api_Node)]) := by
  refine CallT.intro Try.func40 rfl (Nat.le_of_ble_eq_true rfl) ?_
  show T Try.prog 40 (Code.at [] (codeOf Try.f40)) ⟨paramSlots 0 [.ptr bx0 0], [.box bx0 47 [.d (.str x0.reader.s), .d (.int .i64 x0.reader.at_), .d (.int .i64 x0.reader.where_), .d (.int .i64 x0.reader.e), .d (.ex wx0c1), .d (.int .i64 x0.deep)], .arrA wx0c1 36 9 (x0.nodes.map c_api_Node)]⟩ (syntax_parser_times_q bx0 r)
  unfold syntax_parser_times at h
  refine T.seq ?_
  refine T.regionL ?_
  refine asg rfl rfl rfl rfl rfl ?_
  refine asg rfl rfl rfl rfl rfl ?_
  refine asg rfl rfl rfl rfl rfl ?_
  refine TL'.nil (thenS_normal ?_)
  refine T.seq ?_
  refine T.block ?_
  refine T.seq ?_
  refine T.regionL ?_
  refine mv rfl rfl rfl rfl rfl ?_
  refine sp rfl (OpT.nilCheck rfl (dl rfl rfl) rfl rfl ?_)
  refine sp rfl (OpT.fieldPtr rfl (dl rfl rfl) Try.underlying47 rfl i45 (by decide) rfl ?_)
  obtain ⟨v_116, e_117, h⟩ := bind_some h
  refine sp rfl (OpT.callG (is := [0, 1]) (ph := []) rfl (dl rfl rfl) Try.func29 rfl rfl (Args.cons rfl (Args.cons rfl Args.nil)) (syntax_reader_skip_T K (bx0 := bx0) (wx0c1 := wx0c1) e_117) (.cons rfl rfl (.cons rfl rfl (.nil))) (fun _ => rfl) (fun γ_118 => ?_))
  refine nm (.c (.c (.n))) ?_
  refine asg rfl rfl rfl rfl rfl ?_
  refine TL'.nil (thenS_normal ?_)
  rcases bif_some h with ⟨c_119, h⟩ | ⟨c_119, h⟩
  · refine T.condT rfl c_119 ?_
    refine T.seq ?_
    refine T.regionL ?_
    refine asg rfl rfl rfl rfl rfl ?_
    refine asg rfl rfl rfl rfl rfl ?_
    refine asg rfl rfl rfl rfl rfl ?_
    refine TL'.nil (thenS_normal ?_)
    refine T.ret (inBlock_ret (thenS_ret ?_))
    exact Fin.doneK (.cons _ _ _ _ (.tmp 2 _ rfl) (.cons _ _ _ _ (.tmp 3 _ rfl) (.cons _ _ _ _ (.tmp 4 _ rfl) .nil))) (.cons 0 rfl (.cons 0 rfl (.nil _))) (by cases h; exact ⟨gl [γ_118 0], rfl, rfl⟩)
  · refine T.condF rfl c_119 ?_
    refine T.seq ?_
    refine T.regionL ?_
    refine mv rfl rfl rfl rfl rfl ?_
    refine sp rfl (OpT.nilCheck rfl (dl rfl rfl) rfl rfl ?_)
    refine sp rfl (OpT.fieldPtr rfl (dl rfl rfl) Try.underlying47 rfl i45 (by decide) rfl ?_)
    obtain ⟨v_120, e_121, h⟩ := bind_some h
    refine sp rfl (OpT.callG (is := [0, 1]) (ph := []) rfl (dl rfl rfl) Try.func29 rfl rfl (Args.cons rfl (Args.cons rfl Args.nil)) (syntax_reader_skip_T K (bx0 := bx0) (wx0c1 := (γ_118 0)) e_121) (.cons rfl rfl (.cons rfl rfl (.nil))) (fun _ => rfl) (fun γ_122 => ?_))
    refine nm (.c (.c (.n))) ?_
    refine asg rfl rfl rfl rfl rfl ?_
    refine TL'.nil (thenS_normal ?_)
    rcases bif_some h with ⟨c_123, h⟩ | ⟨c_123, h⟩
    · refine T.condT rfl c_123 ?_
      refine T.seq ?_
      refine T.regionL ?_
      refine asg rfl rfl rfl rfl rfl ?_
      refine asg rfl rfl rfl rfl rfl ?_
      refine asg rfl rfl rfl rfl rfl ?_
      refine TL'.nil (thenS_normal ?_)
      refine T.ret (inBlock_ret (thenS_ret ?_))
      exact Fin.doneK (.cons _ _ _ _ (.tmp 2 _ rfl) (.cons _ _ _ _ (.tmp 3 _ rfl) (.cons _ _ _ _ (.tmp 4 _ rfl) .nil))) (.cons 0 rfl (.cons 0 rfl (.nil _))) (by cases h; exact ⟨gl [γ_122 0], rfl, rfl⟩)
    · refine T.condF rfl c_123 ?_
      refine T.seq ?_
      refine T.regionL ?_
      refine mv rfl rfl rfl rfl rfl ?_
      refine sp rfl (OpT.nilCheck rfl (dl rfl rfl) rfl rfl ?_)
      refine sp rfl (OpT.fieldPtr rfl (dl rfl rfl) Try.underlying47 rfl i45 (by decide) rfl ?_)
      obtain ⟨v_124, e_125, h⟩ := bind_some h
      refine sp rfl (OpT.callG (is := [0, 1]) (ph := []) rfl (dl rfl rfl) Try.func29 rfl rfl (Args.cons rfl (Args.cons rfl Args.nil)) (syntax_reader_skip_T K (bx0 := bx0) (wx0c1 := (γ_122 0)) e_125) (.cons rfl rfl (.cons rfl rfl (.nil))) (fun _ => rfl) (fun γ_126 => ?_))
      refine nm (.c (.c (.n))) ?_
      refine asg rfl rfl rfl rfl rfl ?_
      refine TL'.nil (thenS_normal ?_)
      rcases bif_some h with ⟨c_127, h⟩ | ⟨c_127, h⟩
      · refine T.condT rfl c_127 ?_
        refine T.seq ?_
        refine T.regionL ?_
        refine asg rfl rfl rfl rfl rfl ?_
        refine asg rfl rfl rfl rfl rfl ?_
        refine asg rfl rfl rfl rfl rfl ?_
        refine TL'.nil (thenS_normal ?_)
        refine T.ret (inBlock_ret (thenS_ret ?_))
        exact Fin.doneK (.cons _ _ _ _ (.tmp 2 _ rfl) (.cons _ _ _ _ (.tmp 3 _ rfl) (.cons _ _ _ _ (.tmp 4 _ rfl) .nil))) (.cons 0 rfl (.cons 0 rfl (.nil _))) (by cases h; exact ⟨gl [γ_126 0], rfl, rfl⟩)
      · refine T.condF rfl c_127 ?_
        refine T.seq ?_
        refine T.regionL ?_
        refine mv rfl rfl rfl rfl rfl ?_
        refine sp rfl (OpT.nilCheck rfl (dl rfl rfl) rfl rfl ?_)
        refine sp rfl (OpT.fieldPtr rfl (dl rfl rfl) Try.underlying47 rfl i45 (by decide) rfl ?_)
        obtain ⟨v_128, e_129, h⟩ := bind_some h
        refine sp rfl (OpT.callG (is := [0, 1]) (ph := []) rfl (dl rfl rfl) Try.func35 rfl rfl (Args.cons rfl (Args.cons rfl Args.nil)) (syntax_reader_is_T K (bx0 := bx0) (wx0c1 := (γ_126 0)) e_129) (.cons rfl rfl (.cons rfl rfl (.nil))) (fun _ => rfl) (fun γ_130 => ?_))
        refine nm (.c (.c (.n))) ?_
        refine mv rfl rfl rfl rfl rfl ?_
        rcases bif_some h with ⟨c_131, h⟩ | ⟨c_131, h⟩
        · refine TL'.step (.on rfl rfl rfl c_131) (OpT.move rfl (dl rfl rfl) rfl ?_)
          refine TL'.step (.on rfl rfl rfl c_131) (OpT.nilCheck rfl (dl rfl rfl) rfl rfl ?_)
          refine TL'.step (.on rfl rfl rfl c_131) (OpT.fieldPtr rfl (dl rfl rfl) Try.underlying47 rfl i45 (by decide) rfl ?_)
          obtain ⟨v_132, e_133, h⟩ := bind_some h
          refine TL'.step (.on rfl rfl rfl c_131) (OpT.callG (is := [0, 1]) (ph := []) rfl (dl rfl rfl) Try.func47 rfl rfl (Args.cons rfl (Args.cons rfl Args.nil)) (syntax_reader_digit_T K (bx0 := bx0) (wx0c1 := (γ_130 0)) e_133) (.cons rfl rfl (.cons rfl rfl (.nil))) (fun _ => rfl) (fun γ_134 => ?_))
          refine nm (.c (.c (.n))) ?_
          refine sp rfl (OpT.pickT rfl (dl rfl rfl) rfl c_131 rfl ?_)
          refine asg rfl rfl rfl rfl rfl ?_
          refine TL'.nil (thenS_normal ?_)
          rcases bif_some h with ⟨c_135, h⟩ | ⟨c_135, h⟩
          · refine T.condT rfl c_135 ?_
            refine T.seq ?_
            refine T.regionL ?_
            refine mv rfl rfl rfl rfl rfl ?_
            refine sp rfl (OpT.nilCheck rfl (dl rfl rfl) rfl rfl ?_)
            refine sp rfl (OpT.fieldPtr rfl (dl rfl rfl) Try.underlying47 rfl i45 (by decide) rfl ?_)
            obtain ⟨v_136, e_137, h⟩ := bind_some h
            refine sp rfl (OpT.callG (is := [0, 1]) (ph := []) rfl (dl rfl rfl) Try.func51 rfl rfl (Args.cons rfl Args.nil) (syntax_reader_bounds_T K (bx0 := bx0) (wx0c1 := (γ_134 0)) e_137) (.cons rfl rfl (.cons rfl rfl (.nil))) (fun _ => rfl) (fun γ_138 => ?_))
            refine nm (.c (.c (.n))) ?_
            refine mv rfl rfl rfl rfl rfl ?_
            refine sp rfl (OpT.extract rfl (dl rfl rfl) rfl rfl ?_)
            refine sp rfl (OpT.extract rfl (dl rfl rfl) rfl rfl ?_)
            refine asg rfl rfl rfl rfl rfl ?_
            refine asg rfl rfl rfl rfl rfl ?_
            refine TL'.nil (thenS_normal ?_)
            refine T.seq ?_
            refine T.regionL ?_
            refine mv rfl rfl rfl rfl rfl ?_
            refine mv rfl rfl rfl rfl rfl ?_
            refine asg rfl rfl rfl rfl rfl ?_
            refine asg rfl rfl rfl rfl rfl ?_
            refine asg rfl rfl rfl rfl rfl ?_
            refine TL'.nil (thenS_normal ?_)
            refine T.ret (inBlock_ret (thenS_ret ?_))
            exact Fin.doneK (.cons _ _ _ _ (.tmp 2 _ rfl) (.cons _ _ _ _ (.tmp 3 _ rfl) (.cons _ _ _ _ (.tmp 4 _ rfl) .nil))) (.cons 0 rfl (.cons 0 rfl (.nil _))) (by cases h; exact ⟨gl [γ_138 0], rfl, rfl⟩)
          · refine T.condF rfl c_135 ?_
            refine T.by_turn ?_ (syntax_parser_times_j0_T K bx0 v_124.2.reader.s v_124.2.reader.at_ v_124.2.reader.where_ v_124.2.reader.e v_124.2.deep v_124.2.nodes (γ_134 0) h)
            exact Turn.rp (.nil _) (.c .z (.c .z (.n _)))
        · refine TL'.passU (.off _ _ _ _ rfl rfl rfl c_131) (dl rfl rfl) ?_
          refine TL'.passU (.off _ _ _ _ rfl rfl rfl c_131) (dl rfl rfl) ?_
          refine TL'.passU (.off _ _ _ _ rfl rfl rfl c_131) (dl rfl rfl) ?_
          refine TL'.passU (.off _ _ _ _ rfl rfl rfl c_131) (dl rfl rfl) ?_
          refine sp rfl (OpT.pickF rfl (dl rfl rfl) rfl c_131 rfl ?_)
          refine asg rfl rfl rfl rfl rfl ?_
          refine TL'.nil (thenS_normal ?_)
          refine T.condF rfl rfl ?_
          refine T.by_turn ?_ (syntax_parser_times_j0_T K bx0 v_124.2.reader.s v_124.2.reader.at_ v_124.2.reader.where_ v_124.2.reader.e v_124.2.deep v_124.2.nodes (γ_130 0) h)
          exact Turn.rp (.nil _) (.c .z (.c .z (.n _)))

abbrev syntax_parser_item_q (bx0 : Nat) (r : Int × syntax_parser) : Exit → St → Prop := retS Try.prog Try.f33 (fun y t => ∃ γ : Nat → Value, y = (.int .i64 r.1) ∧ t = [.box bx0 47 [.d (.str r.2.reader.s), .d (.int .i64 r.2.reader.at_), .d (.int .i64 r.2.reader.where_), .d (.int .i64 r.2.reader.e), .d (.ex (γ 0)), .d (.int .i64 r.2.deep)], .arrA (γ 0) 36 9 (r.2.nodes.map c_api_Node)])

abbrev syntax_parser_item_qb0x (bx0 : Nat) (r : Int × syntax_parser) : Exit → St → Prop := inBlockS 0 ((syntax_parser_item_q bx0 r))

theorem syntax_parser_item_l0_T {r : Int × syntax_parser} (K : Nat) (rec_syntax_parser_alternative : syntax_parser → Option (Int × syntax_parser)) (hrec_syntax_parser_alternative : syntax_parser_alternative_S rec_syntax_parser_alternative) (bx0 : Nat) : ∀ (k : Nat), ∀ (x3_0_6 : Int) (y0_0_0 : ByteArray) (y0_0_1 : Int) (y0_0_2 : Int) (y0_0_3 : Int) (y0_0_5 : Int) (y0_0_4 : List api_Node) (w0_0 : Value), syntax_parser_item_l0 K rec_syntax_parser_alternative k x3_0_6 y0_0_0 y0_0_1 y0_0_2 y0_0_3 y0_0_5 y0_0_4 = some r → TL Try.prog 25 (Code.at [1, 1, 0, 0] (codeOf Try.f33)) ⟨[(0, .ptr bx0 0), (3, .int .i64 x3_0_6)], [.box bx0 47 [.d (.str y0_0_0), .d (.int .i64 y0_0_1), .d (.int .i64 y0_0_2), .d (.int .i64 y0_0_3), .d (.ex w0_0), .d (.int .i64 y0_0_5)], .arrA w0_0 36 9 (y0_0_4.map c_api_Node)]⟩ (syntax_parser_item_qb0x bx0 r) := by
  intro k
  induction k with
  | zero =>
    intro x3_0_6 y0_0_0 y0_0_1 y0_0_2 y0_0_3 y0_0_5 y0_0_4 w0_0 h
    cases (show (none : Option (Int × syntax_parser)) = some r from h)
  | succ k ih =>
    intro x3_0_6 y0_0_0 y0_0_1 y0_0_2 y0_0_3 y0_0_5 y0_0_4 w0_0 h
    rw [syntax_parser_item_l0] at h
    refine TL.round ?_
    refine T.block ?_
    refine T.seq ?_
    refine T.regionL ?_
    refine mv rfl rfl rfl rfl rfl ?_
    obtain ⟨v_54, e_55, h⟩ := bind_some h
    refine sp rfl (OpT.callG (is := [0, 1]) (ph := []) rfl (dl rfl rfl) Try.func40 rfl rfl (Args.cons rfl Args.nil) (syntax_parser_times_T K (bx0 := bx0) (wx0c1 := w0_0) e_55) (.cons rfl rfl (.cons rfl rfl (.nil))) (fun _ => rfl) (fun γ_56 => ?_))
    refine nm (.c (.c (.n))) ?_
    refine mv rfl rfl rfl rfl rfl ?_
    refine sp rfl (OpT.extract rfl (dl rfl rfl) rfl rfl ?_)
    refine sp rfl (OpT.extract rfl (dl rfl rfl) rfl rfl ?_)
    refine sp rfl (OpT.extract rfl (dl rfl rfl) rfl rfl ?_)
    refine asg rfl rfl rfl rfl rfl ?_
    refine asg rfl rfl rfl rfl rfl ?_
    refine asg rfl rfl rfl rfl rfl ?_
    refine TL'.nil (thenS_normal ?_)
    refine T.seq ?_
    refine T.seq ?_
    refine T.regionL ?_
    refine mv rfl rfl rfl rfl rfl ?_
    refine sp rfl (OpT.not rfl (dl rfl rfl) rfl ?_)
    refine TL'.nil (thenS_normal ?_)
    rcases bif_some h with ⟨c_57, h⟩ | ⟨c_57, h⟩
    · refine T.condT rfl c_57 ?_
      refine T.seq ?_
      refine T.regionL ?_
      refine mv rfl rfl rfl rfl rfl ?_
      refine asg rfl rfl rfl rfl rfl ?_
      refine TL'.nil (thenS_normal ?_)
      refine T.ret (thenS_ret (inBlock_ret (thenS_ret (inBlock_ret ?_))))
      exact Fin.doneK (.cons _ _ _ _ (.tmp 2 _ rfl) .nil) (.cons 0 rfl (.cons 0 rfl (.nil _))) (by cases h; exact ⟨gl [γ_56 0], rfl, rfl⟩)
    · refine T.condF rfl c_57 ?_
      refine T.skip (thenS_normal ?_)
      refine T.regionL ?_
      refine mv rfl rfl rfl rfl rfl ?_
      refine mv rfl rfl rfl rfl rfl ?_
      refine sp rfl (OpT.buildSlice (elems := ([x3_0_6] : List Int).map (cI .i64)) rfl (dl rfl rfl) Try.underlying34 i3 (by decide) rfl (all1 rfl) rfl rfl rfl (lenAll rfl) (by decide) ?_)
      refine mv rfl rfl rfl rfl rfl ?_
      refine mv rfl rfl rfl rfl rfl ?_
      refine sp rfl (OpT.thenTurn (OpT.build (l := [.int .u8 (5 : Int), .int .u64 (Arr4.mk 0 0 0 0).a0, .int .u64 (Arr4.mk 0 0 0 0).a1, .int .u64 (Arr4.mk 0 0 0 0).a2, .int .u64 (Arr4.mk 0 0 0 0).a3, .sl true 1 ([x3_0_6].map (cI .i64)), .int .i64 v_54.1, .int .i64 v_54.2.1, .str (⟨#[]⟩ : ByteArray)]) rfl (dl rfl rfl) (built_struct (pl := [(0, 1), (1, 4), (5, 1), (6, 1), (7, 1), (8, 1)]) Try.underlying36 i36 rfl) (all1 rfl) rfl rfl rfl) (Turn.weakSlotP 23 (l := [.int .u8 (5 : Int), .int .u64 (Arr4.mk 0 0 0 0).a0, .int .u64 (Arr4.mk 0 0 0 0).a1, .int .u64 (Arr4.mk 0 0 0 0).a2, .int .u64 (Arr4.mk 0 0 0 0).a3, .sl true 1 ([x3_0_6].map (cI .i64)), .int .i64 v_54.1, .int .i64 v_54.2.1, .str (⟨#[]⟩ : ByteArray)]) (l' := [.int .u8 (5 : Int), .int .u64 (Arr4.mk 0 0 0 0).a0, .int .u64 (Arr4.mk 0 0 0 0).a1, .int .u64 (Arr4.mk 0 0 0 0).a2, .int .u64 (Arr4.mk 0 0 0 0).a3, .sl false 1 ([x3_0_6].map (cI .i64)), .int .i64 v_54.1, .int .i64 v_54.2.1, .str (⟨#[]⟩ : ByteArray)]) (.cons (.same _) (.cons (.same _) (.cons (.same _) (.cons (.same _) (.cons (.same _) (.cons (.full _ _ _) (.cons (.same _) (.cons (.same _) (.cons (.same _) (.refl _))))))))))) ?_)
      obtain ⟨v_58, e_59, h⟩ := bind_some h
      refine sp rfl (OpT.callG (is := [0, 1]) (ph := []) rfl (dl rfl rfl) Try.func34 rfl rfl (Args.cons rfl (Args.cons rfl Args.nil)) (syntax_parser_put_T K (bx0 := bx0) (wx0c1 := (γ_56 0)) e_59) (.cons rfl rfl (.cons rfl rfl (.nil))) (fun _ => rfl) (fun γ_60 => ?_))
      refine nm (.c (.c (.n))) ?_
      refine asg rfl rfl rfl rfl rfl ?_
      refine TL'.nil (inBlock_normal (thenS_normal ?_))
      refine TL.by_turn ?_ (ih v_58.1 v_58.2.reader.s v_58.2.reader.at_ v_58.2.reader.where_ v_58.2.reader.e v_58.2.deep v_58.2.nodes (γ_60 0) h)
      exact Turn.rp (.cons rfl (.cons rfl (.nil _))) (.c .z (.c .z (.n _)))

theorem syntax_parser_item_T (K : Nat) (rec_syntax_parser_alternative : syntax_parser → Option (Int × syntax_parser)) (hrec_syntax_parser_alternative : syntax_parser_alternative_S rec_syntax_parser_alternative) {x0 : syntax_parser} {bx0 : Nat} {wx0c1 : Value} {r : Int × syntax_parser} (h : syntax_parser_item K rec_syntax_parser_alternative x0 = some r) : CallG Try.prog 33 [.ptr bx0 0] [.box bx0 47 [.d (.str x0.reader.s), .d (.int .i64 x0.reader.at_), .d (.int .i64 x0.reader.where_), .d (.int .i64 x0.reader.e), .d (.ex wx0c1), .d (.int .i64 x0.deep)], .arrA wx0c1 36 9 (x0.nodes.map c_api_Node)] (fun γ => (.int .i64 r.1)) (fun γ => [.box bx0 47 [.d (.str r.2.reader.s), .d (.int .i64 r.2.reader.at_), .d (.int .i64 r.2.reader.where_), .d (.int .i64 r.2.reader.e), .d (.ex (γ 0)), .d (.int .i64 r.2.deep)], .arrA (γ 0) 36 9 (r.2.nodes.map c_api_Node)]) := by
  refine CallT.intro Try.func33 rfl (Nat.le_of_ble_eq_true rfl) ?_
  show T Try.prog 25 (Code.at [] (codeOf Try.f33)) ⟨paramSlots 0 [.ptr bx0 0], [.box bx0 47 [.d (.str x0.reader.s), .d (.int .i64 x0.reader.at_), .d (.int .i64 x0.reader.where_), .d (.int .i64 x0.reader.e), .d (.ex wx0c1), .d (.int .i64 x0.deep)], .arrA wx0c1 36 9 (x0.nodes.map c_api_Node)]⟩ (syntax_parser_item_q bx0 r)
  unfold syntax_parser_item at h
  refine T.seq ?_
  refine T.regionL ?_
  refine asg rfl rfl rfl rfl rfl ?_
  refine TL'.nil (thenS_normal ?_)
  refine T.seq ?_
  refine T.regionL ?_
  refine mv rfl rfl rfl rfl rfl ?_
  obtain ⟨v_51, e_52, h⟩ := bind_some h
  refine sp rfl (OpT.callG (is := [0, 1]) (ph := []) rfl (dl rfl rfl) Try.func39 rfl rfl (Args.cons rfl Args.nil) (syntax_parser_atom_T K rec_syntax_parser_alternative hrec_syntax_parser_alternative (bx0 := bx0) (wx0c1 := wx0c1) e_52) (.cons rfl rfl (.cons rfl rfl (.nil))) (fun _ => rfl) (fun γ_53 => ?_))
  refine nm (.c (.c (.n))) ?_
  refine asg rfl rfl rfl rfl rfl ?_
  refine TL'.nil (thenS_normal ?_)
  refine T.block ?_
  refine T.loop ?_
  refine TL.by_turn ?_ (syntax_parser_item_l0_T K rec_syntax_parser_alternative hrec_syntax_parser_alternative bx0 K v_51.1 v_51.2.reader.s v_51.2.reader.at_ v_51.2.reader.where_ v_51.2.reader.e v_51.2.deep v_51.2.nodes (γ_53 0) h)
  exact Turn.rp (.cons rfl (.cons rfl (.nil _))) (.c .z (.c .z (.n _)))

abbrev syntax_parser_join_q (bx0 : Nat) (r : Int × syntax_parser) : Exit → St → Prop := retS Try.prog Try.f30 (fun y t => ∃ γ : Nat → Value, y = (.int .i64 r.1) ∧ t = [.box bx0 47 [.d (.str r.2.reader.s), .d (.int .i64 r.2.reader.at_), .d (.int .i64 r.2.reader.where_), .d (.int .i64 r.2.reader.e), .d (.ex (γ 0)), .d (.int .i64 r.2.deep)], .arrA (γ 0) 36 9 (r.2.nodes.map c_api_Node)])

theorem syntax_parser_join_T (K : Nat) {x0 : syntax_parser} {x1 : Int} {x2 : List Int} {bx0 : Nat} {wx0c1 : Value} {flx2 : Bool} {r : Int × syntax_parser} (h : syntax_parser_join K x0 x1 x2 = some r) : CallG Try.prog 30 [.ptr bx0 0, .int .u8 x1, .sl flx2 1 (x2.map (cI .i64))] [.box bx0 47 [.d (.str x0.reader.s), .d (.int .i64 x0.reader.at_), .d (.int .i64 x0.reader.where_), .d (.int .i64 x0.reader.e), .d (.ex wx0c1), .d (.int .i64 x0.deep)], .arrA wx0c1 36 9 (x0.nodes.map c_api_Node)] (fun γ => (.int .i64 r.1)) (fun γ => [.box bx0 47 [.d (.str r.2.reader.s), .d (.int .i64 r.2.reader.at_), .d (.int .i64 r.2.reader.where_), .d (.int .i64 r.2.reader.e), .d (.ex (γ 0)), .d (.int .i64 r.2.deep)], .arrA (γ 0) 36 9 (r.2.nodes.map c_api_Node)]) := by
  refine CallT.intro Try.func30 rfl (Nat.le_of_ble_eq_true rfl) ?_
  show T Try.prog 18 (Code.at [] (codeOf Try.f30)) ⟨paramSlots 0 [.ptr bx0 0, .int .u8 x1, .sl flx2 1 (x2.map (cI .i64))], [.box bx0 47 [.d (.str x0.reader.s), .d (.int .i64 x0.reader.at_), .d (.int .i64 x0.reader.where_), .d (.int .i64 x0.reader.e), .d (.ex wx0c1), .d (.int .i64 x0.deep)], .arrA wx0c1 36 9 (x0.nodes.map c_api_Node)]⟩ (syntax_parser_join_q bx0 r)
  unfold syntax_parser_join at h
  refine T.seq ?_
  refine T.regionL ?_
  refine asg rfl rfl rfl rfl rfl ?_
  refine TL'.nil (thenS_normal ?_)
  refine T.seq ?_
  refine T.seq ?_
  refine T.regionL ?_
  refine mv rfl rfl rfl rfl rfl ?_
  refine sp rfl (OpT.lenSlM (xs := x2) (f := (cI .i64)) rfl (dl rfl rfl) Try.underlying34 rfl ?_)
  refine sp rfl (OpT.int2 rfl rfl (dl rfl rfl) rfl rfl ?_)
  refine TL'.nil (thenS_normal ?_)
  rcases bif_some h with ⟨c_25, h⟩ | ⟨c_25, h⟩
  · refine T.condT rfl c_25 ?_
    refine T.seq ?_
    refine T.regionL ?_
    refine mv rfl rfl rfl rfl rfl ?_
    obtain ⟨v_26, e_27, h⟩ := bind_some h
    refine sp rfl (OpT.indexSlM (xs := x2) (f := (cI .i64)) (v := v_26) rfl (dl rfl rfl) Try.underlying34 i3 rfl rfl e_27 ?_)
    refine sp rfl (OpT.loadRef rfl (dl rfl rfl) Try.underlying3 rfl rfl rfl ?_)
    refine asg rfl rfl rfl rfl rfl ?_
    refine TL'.nil (thenS_normal ?_)
    refine T.ret (thenS_ret ?_)
    exact Fin.doneK (.cons _ _ _ _ (.tmp 6 _ rfl) .nil) (.cons 0 rfl (.cons 0 rfl (.nil _))) (by cases h; exact ⟨gl [wx0c1], rfl, rfl⟩)
  · refine T.condF rfl c_25 ?_
    refine T.skip (thenS_normal ?_)
    refine T.seq ?_
    refine T.regionL ?_
    refine mv rfl rfl rfl rfl rfl ?_
    refine mv rfl rfl rfl rfl rfl ?_
    refine mv rfl rfl rfl rfl rfl ?_
    refine sp rfl (OpT.thenTurn (OpT.build (l := [.int .u8 x1, .int .u64 (Arr4.mk 0 0 0 0).a0, .int .u64 (Arr4.mk 0 0 0 0).a1, .int .u64 (Arr4.mk 0 0 0 0).a2, .int .u64 (Arr4.mk 0 0 0 0).a3, .sl flx2 1 (x2.map (cI .i64)), .int .i64 (0 : Int), .int .i64 (0 : Int), .str (⟨#[]⟩ : ByteArray)]) rfl (dl rfl rfl) (built_struct (pl := [(0, 1), (1, 4), (5, 1), (6, 1), (7, 1), (8, 1)]) Try.underlying36 i36 rfl) (all1 rfl) rfl rfl rfl) (Turn.weakSlotP 16 (l := [.int .u8 x1, .int .u64 (Arr4.mk 0 0 0 0).a0, .int .u64 (Arr4.mk 0 0 0 0).a1, .int .u64 (Arr4.mk 0 0 0 0).a2, .int .u64 (Arr4.mk 0 0 0 0).a3, .sl flx2 1 (x2.map (cI .i64)), .int .i64 (0 : Int), .int .i64 (0 : Int), .str (⟨#[]⟩ : ByteArray)]) (l' := [.int .u8 x1, .int .u64 (Arr4.mk 0 0 0 0).a0, .int .u64 (Arr4.mk 0 0 0 0).a1, .int .u64 (Arr4.mk 0 0 0 0).a2, .int .u64 (Arr4.mk 0 0 0 0).a3, .sl false 1 (x2.map (cI .i64)), .int .i64 (0 : Int), .int .i64 (0 : Int), .str (⟨#[]⟩ : ByteArray)]) (.cons (.same _) (.cons (.same _) (.cons (.same _) (.cons (.same _) (.cons (.same _) (.cons (.full _ _ _) (.cons (.same _) (.cons (.same _) (.cons (.same _) (.refl _))))))))))) ?_)
    obtain ⟨v_28, e_29, h⟩ := bind_some h
    refine sp rfl (OpT.callG (is := [0, 1]) (ph := []) rfl (dl rfl rfl) Try.func34 rfl rfl (Args.cons rfl (Args.cons rfl Args.nil)) (syntax_parser_put_T K (bx0 := bx0) (wx0c1 := wx0c1) e_29) (.cons rfl rfl (.cons rfl rfl (.nil))) (fun _ => rfl) (fun γ_30 => ?_))
    refine nm (.c (.c (.n))) ?_
    refine asg rfl rfl rfl rfl rfl ?_
    refine TL'.nil (thenS_normal ?_)
    refine T.ret ?_
    exact Fin.doneK (.cons _ _ _ _ (.tmp 6 _ rfl) .nil) (.cons 0 rfl (.cons 0 rfl (.nil _))) (by cases h; exact ⟨gl [γ_30 0], rfl, rfl⟩)

abbrev syntax_parser_row_q (bx0 : Nat) (r : Int × syntax_parser) : Exit → St → Prop := retS Try.prog Try.f28 (fun y t => ∃ γ : Nat → Value, y = (.int .i64 r.1) ∧ t = [.box bx0 47 [.d (.str r.2.reader.s), .d (.int .i64 r.2.reader.at_), .d (.int .i64 r.2.reader.where_), .d (.int .i64 r.2.reader.e), .d (.ex (γ 0)), .d (.int .i64 r.2.deep)], .arrA (γ 0) 36 9 (r.2.nodes.map c_api_Node)])

abbrev syntax_parser_row_qs111 (bx0 : Nat) (r : Int × syntax_parser) : Exit → St → Prop := thenS (fun s' => T Try.prog 37 (Code.at [1, 1, 1] (codeOf Try.f28)) s' ((syntax_parser_row_q bx0 r))) ((syntax_parser_row_q bx0 r))

abbrev syntax_parser_row_qb0x111 (bx0 : Nat) (r : Int × syntax_parser) : Exit → St → Prop := inBlockS 0 ((syntax_parser_row_qs111 bx0 r))

abbrev syntax_parser_row_ql1100 (bx0 : Nat) (r : Int × syntax_parser) : Exit → St → Prop := thenS (fun s' => TL Try.prog 37 (Code.at [1, 1, 0, 0, 0] (codeOf Try.f28)) s' ((syntax_parser_row_qb0x111 bx0 r))) ((syntax_parser_row_qb0x111 bx0 r))

abbrev syntax_parser_row_qb1_0x1100 (bx0 : Nat) (r : Int × syntax_parser) : Exit → St → Prop := inBlockS 1 ((syntax_parser_row_ql1100 bx0 r))

abbrev syntax_parser_row_qs1100001 (bx0 : Nat) (r : Int × syntax_parser) : Exit → St → Prop := thenS (fun s' => T Try.prog 37 (Code.at [1, 1, 0, 0, 0, 0, 1] (codeOf Try.f28)) s' ((syntax_parser_row_qb1_0x1100 bx0 r))) ((syntax_parser_row_qb1_0x1100 bx0 r))

theorem syntax_parser_row_j1_T {r : Int × syntax_parser} (K : Nat) (rec_syntax_parser_alternative : syntax_parser → Option (Int × syntax_parser)) (hrec_syntax_parser_alternative : syntax_parser_alternative_S rec_syntax_parser_alternative) (bx0 : Nat) (y0_1_0 : ByteArray) (y0_1_1 : Int) (y0_1_2 : Int) (y0_1_3 : Int) (y0_1_5 : Int) (y0_1_4 : List api_Node) (y3_1_6 : List Int) (w0_1 : Value) (w3_1 : Value) (h : syntax_parser_row_j1 K rec_syntax_parser_alternative y0_1_0 y0_1_1 y0_1_2 y0_1_3 y0_1_5 y0_1_4 y3_1_6 = some r) : T Try.prog 37 (Code.at [1, 1, 0, 0, 0, 0, 0, 1, 1, 0] (codeOf Try.f28)) ⟨[(0, .ptr bx0 0), (3, .c (.ex w3_1))], [.box bx0 47 [.d (.str y0_1_0), .d (.int .i64 y0_1_1), .d (.int .i64 y0_1_2), .d (.int .i64 y0_1_3), .d (.ex w0_1), .d (.int .i64 y0_1_5)], .arrA w0_1 36 9 (y0_1_4.map c_api_Node), .arrA w3_1 3 1 (y3_1_6.map (cI .i64))]⟩ (syntax_parser_row_qs1100001 bx0 r) := by
  unfold syntax_parser_row_j1 at h
  refine T.exit (thenS_exit (inBlock_other (by decide) (thenS_exit (inBlock_exit (thenS_normal ?_)))))
  refine T.seq ?_
  refine T.seq ?_
  refine T.regionL ?_
  refine mv rfl rfl rfl rfl rfl ?_
  refine sp rfl (OpT.lenAM (i := 2) (xs := y3_1_6) (f := (cI .i64)) rfl (dl rfl rfl) Try.underlying34 rfl rfl ?_)
  refine sp rfl (OpT.int2 rfl rfl (dl rfl rfl) rfl rfl ?_)
  refine TL'.nil (thenS_normal ?_)
  rcases bif_some h with ⟨c_147, h⟩ | ⟨c_147, h⟩
  · refine T.condT rfl c_147 ?_
    refine T.seq ?_
    refine T.regionL ?_
    refine mv rfl rfl rfl rfl rfl ?_
    refine sp rfl (OpT.thenTurn (OpT.build (l := [.int .u8 (1 : Int), .int .u64 (Arr4.mk 0 0 0 0).a0, .int .u64 (Arr4.mk 0 0 0 0).a1, .int .u64 (Arr4.mk 0 0 0 0).a2, .int .u64 (Arr4.mk 0 0 0 0).a3, .ex (.slice none 0 0), .int .i64 (0 : Int), .int .i64 (0 : Int), .str (⟨#[]⟩ : ByteArray)]) rfl (dl rfl rfl) (built_struct (pl := [(0, 1), (1, 4), (5, 1), (6, 1), (7, 1), (8, 1)]) Try.underlying36 i36 rfl) (all1 rfl) rfl rfl rfl) (Turn.weakSlotP 32 (l := [.int .u8 (1 : Int), .int .u64 (Arr4.mk 0 0 0 0).a0, .int .u64 (Arr4.mk 0 0 0 0).a1, .int .u64 (Arr4.mk 0 0 0 0).a2, .int .u64 (Arr4.mk 0 0 0 0).a3, .ex (.slice none 0 0), .int .i64 (0 : Int), .int .i64 (0 : Int), .str (⟨#[]⟩ : ByteArray)]) (l' := [.int .u8 (1 : Int), .int .u64 (Arr4.mk 0 0 0 0).a0, .int .u64 (Arr4.mk 0 0 0 0).a1, .int .u64 (Arr4.mk 0 0 0 0).a2, .int .u64 (Arr4.mk 0 0 0 0).a3, .sl false 1 (([] : List Int).map (cI .i64)), .int .i64 (0 : Int), .int .i64 (0 : Int), .str (⟨#[]⟩ : ByteArray)]) (.cons (.same _) (.cons (.same _) (.cons (.same _) (.cons (.same _) (.cons (.same _) (.cons (.nil _ _) (.cons (.same _) (.cons (.same _) (.cons (.same _) (.refl _))))))))))) ?_)
    obtain ⟨v_148, e_149, h⟩ := bind_some h
    refine sp rfl (OpT.callG (is := [0, 1]) (ph := []) rfl (dl rfl rfl) Try.func34 rfl rfl (Args.cons rfl (Args.cons rfl Args.nil)) (syntax_parser_put_T K (bx0 := bx0) (wx0c1 := w0_1) e_149) (.cons rfl rfl (.cons rfl rfl (.nil))) (fun _ => rfl) (fun γ_150 => ?_))
    refine nm (.c (.c (.c (.n)))) ?_
    refine asg rfl rfl rfl rfl rfl ?_
    refine TL'.nil (thenS_normal ?_)
    refine T.ret (thenS_ret ?_)
    exact Fin.doneK (.cons _ _ _ _ (.tmp 2 _ rfl) .nil) (.cons 0 rfl (.cons 0 rfl (.nil _))) (by cases h; exact ⟨gl [γ_150 0], rfl, rfl⟩)
  · refine T.condF rfl c_147 ?_
    refine T.skip (thenS_normal ?_)
    refine T.seq ?_
    refine T.regionL ?_
    refine mv rfl rfl rfl rfl rfl ?_
    refine mv rfl rfl rfl rfl rfl ?_
    obtain ⟨v_151, e_152, h⟩ := bind_some h
    refine sp rfl (OpT.callG (is := [0, 1]) (ph := []) rfl (dl rfl rfl) Try.func30 rfl rfl (Args.cons rfl (Args.cons rfl (Args.view (i := 2) rfl rfl Args.nil))) (syntax_parser_join_T K (bx0 := bx0) (wx0c1 := w0_1) (flx2 := false) e_152) (.cons rfl rfl (.cons rfl rfl (.nil))) (fun _ => rfl) (fun γ_153 => ?_))
    refine nm (.c (.c (.c (.n)))) ?_
    refine asg rfl rfl rfl rfl rfl ?_
    refine TL'.nil (thenS_normal ?_)
    refine T.ret ?_
    exact Fin.doneK (.cons _ _ _ _ (.tmp 2 _ rfl) .nil) (.cons 0 rfl (.cons 0 rfl (.nil _))) (by cases h; exact ⟨gl [γ_153 0], rfl, rfl⟩)

theorem syntax_parser_row_l0_T {r : Int × syntax_parser} (K : Nat) (rec_syntax_parser_alternative : syntax_parser → Option (Int × syntax_parser)) (hrec_syntax_parser_alternative : syntax_parser_alternative_S rec_syntax_parser_alternative) (bx0 : Nat) : ∀ (k : Nat), ∀ (y0_0_0 : ByteArray) (y0_0_1 : Int) (y0_0_2 : Int) (y0_0_3 : Int) (y0_0_5 : Int) (y0_0_4 : List api_Node) (y3_0_6 : List Int) (w0_0 : Value) (w3_0 : Value), syntax_parser_row_l0 K rec_syntax_parser_alternative k y0_0_0 y0_0_1 y0_0_2 y0_0_3 y0_0_5 y0_0_4 y3_0_6 = some r → TL Try.prog 37 (Code.at [1, 1, 0, 0, 0] (codeOf Try.f28)) ⟨[(0, .ptr bx0 0), (3, .c (.ex w3_0))], [.box bx0 47 [.d (.str y0_0_0), .d (.int .i64 y0_0_1), .d (.int .i64 y0_0_2), .d (.int .i64 y0_0_3), .d (.ex w0_0), .d (.int .i64 y0_0_5)], .arrA w0_0 36 9 (y0_0_4.map c_api_Node), .arrA w3_0 3 1 (y3_0_6.map (cI .i64))]⟩ (syntax_parser_row_qb0x111 bx0 r) := by
  intro k
  induction k with
  | zero =>
    intro y0_0_0 y0_0_1 y0_0_2 y0_0_3 y0_0_5 y0_0_4 y3_0_6 w0_0 w3_0 h
    cases (show (none : Option (Int × syntax_parser)) = some r from h)
  | succ k ih =>
    intro y0_0_0 y0_0_1 y0_0_2 y0_0_3 y0_0_5 y0_0_4 y3_0_6 w0_0 w3_0 h
    rw [syntax_parser_row_l0] at h
    refine TL.round ?_
    refine T.block ?_
    refine T.seq ?_
    refine T.seq ?_
    refine T.regionL ?_
    refine mv rfl rfl rfl rfl rfl ?_
    refine sp rfl (OpT.nilCheck rfl (dl rfl rfl) rfl rfl ?_)
    refine sp rfl (OpT.fieldPtr rfl (dl rfl rfl) Try.underlying47 rfl i45 (by decide) rfl ?_)
    obtain ⟨v_143, e_144, h⟩ := bind_some h
    refine sp rfl (OpT.callG (is := [0, 1]) (ph := []) rfl (dl rfl rfl) Try.func19 rfl rfl (Args.cons rfl Args.nil) (syntax_reader_peek_T K (bx0 := bx0) (wx0c1 := w0_0) e_144) (.cons rfl rfl (.cons rfl rfl (.nil))) (fun _ => rfl) (fun γ_145 => ?_))
    refine nm (.c (.c (.c (.n)))) ?_
    refine mv rfl rfl rfl rfl rfl ?_
    refine sp rfl (OpT.extract rfl (dl rfl rfl) rfl rfl ?_)
    refine sp rfl (OpT.extract rfl (dl rfl rfl) rfl rfl ?_)
    refine asg rfl rfl rfl rfl rfl ?_
    refine asg rfl rfl rfl rfl rfl ?_
    refine TL'.nil (thenS_normal ?_)
    refine T.seq ?_
    refine T.regionL ?_
    refine mv rfl rfl rfl rfl rfl ?_
    refine sp rfl (OpT.not rfl (dl rfl rfl) rfl ?_)
    refine mv rfl rfl rfl rfl rfl ?_
    rcases bif_some h with ⟨c_146, h⟩ | ⟨c_146, h⟩
    · refine TL'.passU (.off _ _ _ _ rfl rfl rfl c_146) (dl rfl rfl) ?_
      refine TL'.passU (.off _ _ _ _ rfl rfl rfl c_146) (dl rfl rfl) ?_
      refine sp rfl (OpT.pickT rfl (dl rfl rfl) rfl c_146 rfl ?_)
      refine mv rfl rfl rfl rfl rfl ?_
      refine TL'.passU (.off _ _ _ _ rfl rfl rfl rfl) (dl rfl rfl) ?_
      refine TL'.passU (.off _ _ _ _ rfl rfl rfl rfl) (dl rfl rfl) ?_
      refine sp rfl (OpT.pickT rfl (dl rfl rfl) rfl rfl rfl ?_)
      refine TL'.nil (thenS_normal ?_)
      refine T.condT rfl rfl ?_
      refine T.by_turn ?_ (syntax_parser_row_j1_T K rec_syntax_parser_alternative hrec_syntax_parser_alternative bx0 ((syntax_parser.mk (syntax_reader.mk y0_0_0 y0_0_1 y0_0_2 y0_0_3) y0_0_4 y0_0_5).reader.s) ((syntax_parser.mk (syntax_reader.mk y0_0_0 y0_0_1 y0_0_2 y0_0_3) y0_0_4 y0_0_5).reader.at_) ((syntax_parser.mk (syntax_reader.mk y0_0_0 y0_0_1 y0_0_2 y0_0_3) y0_0_4 y0_0_5).reader.where_) ((syntax_parser.mk (syntax_reader.mk y0_0_0 y0_0_1 y0_0_2 y0_0_3) y0_0_4 y0_0_5).reader.e) ((syntax_parser.mk (syntax_reader.mk y0_0_0 y0_0_1 y0_0_2 y0_0_3) y0_0_4 y0_0_5).deep) ((syntax_parser.mk (syntax_reader.mk y0_0_0 y0_0_1 y0_0_2 y0_0_3) y0_0_4 y0_0_5).nodes) y3_0_6 (γ_145 0) w3_0 h)
      exact Turn.rp (.cons rfl (.cons rfl (.nil _))) (.c .z (.c .z (.c .z (.n _))))
    · refine TL'.step (.on rfl rfl rfl c_146) (OpT.move rfl (dl rfl rfl) rfl ?_)
      refine TL'.step (.on rfl rfl rfl c_146) (OpT.int2 rfl rfl (dl rfl rfl) rfl rfl ?_)
      refine sp rfl (OpT.pickF rfl (dl rfl rfl) rfl c_146 rfl ?_)
      refine mv rfl rfl rfl rfl rfl ?_
      rcases bif_some h with ⟨c_154, h⟩ | ⟨c_154, h⟩
      · refine TL'.passU (.off _ _ _ _ rfl rfl rfl c_154) (dl rfl rfl) ?_
        refine TL'.passU (.off _ _ _ _ rfl rfl rfl c_154) (dl rfl rfl) ?_
        refine sp rfl (OpT.pickT rfl (dl rfl rfl) rfl c_154 rfl ?_)
        refine TL'.nil (thenS_normal ?_)
        refine T.condT rfl rfl ?_
        refine T.by_turn ?_ (syntax_parser_row_j1_T K rec_syntax_parser_alternative hrec_syntax_parser_alternative bx0 ((syntax_parser.mk (syntax_reader.mk y0_0_0 y0_0_1 y0_0_2 y0_0_3) y0_0_4 y0_0_5).reader.s) ((syntax_parser.mk (syntax_reader.mk y0_0_0 y0_0_1 y0_0_2 y0_0_3) y0_0_4 y0_0_5).reader.at_) ((syntax_parser.mk (syntax_reader.mk y0_0_0 y0_0_1 y0_0_2 y0_0_3) y0_0_4 y0_0_5).reader.where_) ((syntax_parser.mk (syntax_reader.mk y0_0_0 y0_0_1 y0_0_2 y0_0_3) y0_0_4 y0_0_5).reader.e) ((syntax_parser.mk (syntax_reader.mk y0_0_0 y0_0_1 y0_0_2 y0_0_3) y0_0_4 y0_0_5).deep) ((syntax_parser.mk (syntax_reader.mk y0_0_0 y0_0_1 y0_0_2 y0_0_3) y0_0_4 y0_0_5).nodes) y3_0_6 (γ_145 0) w3_0 h)
        exact Turn.rp (.cons rfl (.cons rfl (.nil _))) (.c .z (.c .z (.c .z (.n _))))
      · refine TL'.step (.on rfl rfl rfl c_154) (OpT.move rfl (dl rfl rfl) rfl ?_)
        refine TL'.step (.on rfl rfl rfl c_154) (OpT.int2 rfl rfl (dl rfl rfl) rfl rfl ?_)
        refine sp rfl (OpT.pickF rfl (dl rfl rfl) rfl c_154 rfl ?_)
        refine TL'.nil (thenS_normal ?_)
        rcases bif_some h with ⟨c_155, h⟩ | ⟨c_155, h⟩
        · refine T.condT rfl c_155 ?_
          refine T.by_turn ?_ (syntax_parser_row_j1_T K rec_syntax_parser_alternative hrec_syntax_parser_alternative bx0 ((syntax_parser.mk (syntax_reader.mk y0_0_0 y0_0_1 y0_0_2 y0_0_3) y0_0_4 y0_0_5).reader.s) ((syntax_parser.mk (syntax_reader.mk y0_0_0 y0_0_1 y0_0_2 y0_0_3) y0_0_4 y0_0_5).reader.at_) ((syntax_parser.mk (syntax_reader.mk y0_0_0 y0_0_1 y0_0_2 y0_0_3) y0_0_4 y0_0_5).reader.where_) ((syntax_parser.mk (syntax_reader.mk y0_0_0 y0_0_1 y0_0_2 y0_0_3) y0_0_4 y0_0_5).reader.e) ((syntax_parser.mk (syntax_reader.mk y0_0_0 y0_0_1 y0_0_2 y0_0_3) y0_0_4 y0_0_5).deep) ((syntax_parser.mk (syntax_reader.mk y0_0_0 y0_0_1 y0_0_2 y0_0_3) y0_0_4 y0_0_5).nodes) y3_0_6 (γ_145 0) w3_0 h)
          exact Turn.rp (.cons rfl (.cons rfl (.nil _))) (.c .z (.c .z (.c .z (.n _))))
        · refine T.condF rfl c_155 ?_
          refine T.skip (thenS_normal ?_)
          refine T.regionL ?_
          refine mv rfl rfl rfl rfl rfl ?_
          refine mv rfl rfl rfl rfl rfl ?_
          obtain ⟨v_156, e_157, h⟩ := bind_some h
          refine sp rfl (OpT.callG (is := [0, 1]) (ph := []) rfl (dl rfl rfl) Try.func33 rfl rfl (Args.cons rfl Args.nil) (syntax_parser_item_T K rec_syntax_parser_alternative hrec_syntax_parser_alternative (bx0 := bx0) (wx0c1 := (γ_145 0)) e_157) (.cons rfl rfl (.cons rfl rfl (.nil))) (fun _ => rfl) (fun γ_158 => ?_))
          refine nm (.c (.c (.c (.n)))) ?_
          refine sp rfl (OpT.buildSlice (elems := ([v_156.1] : List Int).map (cI .i64)) rfl (dl rfl rfl) Try.underlying34 i3 (by decide) rfl (all1 rfl) rfl rfl rfl (lenAll rfl) (by decide) ?_)
          obtain ⟨g_160, h⟩ := ck_some h
          refine sp rfl (OpT.appendAM (i := 2) (xs := y3_0_6) (ys := [v_156.1]) (f := (cI .i64)) rfl (dl rfl rfl) Try.underlying34 i3 rfl rfl rfl rfl g_160 (fun w_159 => ?_))
          refine asg rfl rfl rfl rfl rfl ?_
          refine TL'.nil (inBlock_normal (thenS_normal ?_))
          refine TL.by_turn ?_ (ih v_156.2.reader.s v_156.2.reader.at_ v_156.2.reader.where_ v_156.2.reader.e v_156.2.deep v_156.2.nodes (y3_0_6 ++ [v_156.1]) (γ_158 0) w_159 h)
          exact Turn.rp (.cons rfl (.cons rfl (.nil _))) (.c .z (.c .z (.c .z (.n _))))

theorem syntax_parser_row_T (K : Nat) (rec_syntax_parser_alternative : syntax_parser → Option (Int × syntax_parser)) (hrec_syntax_parser_alternative : syntax_parser_alternative_S rec_syntax_parser_alternative) {x0 : syntax_parser} {bx0 : Nat} {wx0c1 : Value} {r : Int × syntax_parser} (h : syntax_parser_row K rec_syntax_parser_alternative x0 = some r) : CallG Try.prog 28 [.ptr bx0 0] [.box bx0 47 [.d (.str x0.reader.s), .d (.int .i64 x0.reader.at_), .d (.int .i64 x0.reader.where_), .d (.int .i64 x0.reader.e), .d (.ex wx0c1), .d (.int .i64 x0.deep)], .arrA wx0c1 36 9 (x0.nodes.map c_api_Node)] (fun γ => (.int .i64 r.1)) (fun γ => [.box bx0 47 [.d (.str r.2.reader.s), .d (.int .i64 r.2.reader.at_), .d (.int .i64 r.2.reader.where_), .d (.int .i64 r.2.reader.e), .d (.ex (γ 0)), .d (.int .i64 r.2.deep)], .arrA (γ 0) 36 9 (r.2.nodes.map c_api_Node)]) := by
  refine CallT.intro Try.func28 rfl (Nat.le_of_ble_eq_true rfl) ?_
  show T Try.prog 37 (Code.at [] (codeOf Try.f28)) ⟨paramSlots 0 [.ptr bx0 0], [.box bx0 47 [.d (.str x0.reader.s), .d (.int .i64 x0.reader.at_), .d (.int .i64 x0.reader.where_), .d (.int .i64 x0.reader.e), .d (.ex wx0c1), .d (.int .i64 x0.deep)], .arrA wx0c1 36 9 (x0.nodes.map c_api_Node)]⟩ (syntax_parser_row_q bx0 r)
  unfold syntax_parser_row at h
  refine T.seq ?_
  refine T.regionL ?_
  refine asg rfl rfl rfl rfl rfl ?_
  refine TL'.nil (thenS_normal ?_)
  refine T.seq ?_
  refine T.regionL ?_
  refine asg rfl rfl rfl rfl rfl ?_
  refine TL'.nil (thenS_normal ?_)
  refine T.seq ?_
  refine T.block ?_
  refine T.loop ?_
  refine TL.by_turn (Turn.nilA 3 1) ?_
  refine TL.by_turn ?_ (syntax_parser_row_l0_T K rec_syntax_parser_alternative hrec_syntax_parser_alternative bx0 K x0.reader.s x0.reader.at_ x0.reader.where_ x0.reader.e x0.deep x0.nodes [] wx0c1 (nilv 2) h)
  exact Turn.rp (.cons rfl (.cons rfl (.nil _))) (.c (.s .z) (.c (.s .z) (.c .z (.n _))))

abbrev syntax_parser_alternative_q (bx0 : Nat) (r : Int × syntax_parser) : Exit → St → Prop := retS Try.prog Try.f18 (fun y t => ∃ γ : Nat → Value, y = (.int .i64 r.1) ∧ t = [.box bx0 47 [.d (.str r.2.reader.s), .d (.int .i64 r.2.reader.at_), .d (.int .i64 r.2.reader.where_), .d (.int .i64 r.2.reader.e), .d (.ex (γ 0)), .d (.int .i64 r.2.deep)], .arrA (γ 0) 36 9 (r.2.nodes.map c_api_Node)])

abbrev syntax_parser_alternative_qs111 (bx0 : Nat) (r : Int × syntax_parser) : Exit → St → Prop := thenS (fun s' => T Try.prog 19 (Code.at [1, 1, 1] (codeOf Try.f18)) s' ((syntax_parser_alternative_q bx0 r))) ((syntax_parser_alternative_q bx0 r))

abbrev syntax_parser_alternative_qb0x111 (bx0 : Nat) (r : Int × syntax_parser) : Exit → St → Prop := inBlockS 0 ((syntax_parser_alternative_qs111 bx0 r))

theorem syntax_parser_alternative_l0_T {r : Int × syntax_parser} (K : Nat) (rec_syntax_parser_alternative : syntax_parser → Option (Int × syntax_parser)) (hrec_syntax_parser_alternative : syntax_parser_alternative_S rec_syntax_parser_alternative) (bx0 : Nat) : ∀ (k : Nat), ∀ (y0_0_0 : ByteArray) (y0_0_1 : Int) (y0_0_2 : Int) (y0_0_3 : Int) (y0_0_5 : Int) (y0_0_4 : List api_Node) (y3_0_6 : List Int) (w0_0 : Value) (w3_0 : Value), syntax_parser_alternative_l0 K rec_syntax_parser_alternative k y0_0_0 y0_0_1 y0_0_2 y0_0_3 y0_0_5 y0_0_4 y3_0_6 = some r → TL Try.prog 19 (Code.at [1, 1, 0, 0, 0] (codeOf Try.f18)) ⟨[(0, .ptr bx0 0), (3, .c (.ex w3_0))], [.box bx0 47 [.d (.str y0_0_0), .d (.int .i64 y0_0_1), .d (.int .i64 y0_0_2), .d (.int .i64 y0_0_3), .d (.ex w0_0), .d (.int .i64 y0_0_5)], .arrA w0_0 36 9 (y0_0_4.map c_api_Node), .arrA w3_0 3 1 (y3_0_6.map (cI .i64))]⟩ (syntax_parser_alternative_qb0x111 bx0 r) := by
  intro k
  induction k with
  | zero =>
    intro y0_0_0 y0_0_1 y0_0_2 y0_0_3 y0_0_5 y0_0_4 y3_0_6 w0_0 w3_0 h
    cases (show (none : Option (Int × syntax_parser)) = some r from h)
  | succ k ih =>
    intro y0_0_0 y0_0_1 y0_0_2 y0_0_3 y0_0_5 y0_0_4 y3_0_6 w0_0 w3_0 h
    rw [syntax_parser_alternative_l0] at h
    refine TL.round ?_
    refine T.seq ?_
    refine T.seq ?_
    refine T.regionL ?_
    refine mv rfl rfl rfl rfl rfl ?_
    refine sp rfl (OpT.nilCheck rfl (dl rfl rfl) rfl rfl ?_)
    refine sp rfl (OpT.fieldPtr rfl (dl rfl rfl) Try.underlying47 rfl i45 (by decide) rfl ?_)
    obtain ⟨v_111, e_112, h⟩ := bind_some h
    refine sp rfl (OpT.callG (is := [0, 1]) (ph := []) rfl (dl rfl rfl) Try.func29 rfl rfl (Args.cons rfl (Args.cons rfl Args.nil)) (syntax_reader_skip_T K (bx0 := bx0) (wx0c1 := w0_0) e_112) (.cons rfl rfl (.cons rfl rfl (.nil))) (fun _ => rfl) (fun γ_113 => ?_))
    refine nm (.c (.c (.c (.n)))) ?_
    refine TL'.nil (thenS_normal ?_)
    rcases bif_some h with ⟨c_114, h⟩ | ⟨c_114, h⟩
    · refine T.condT rfl c_114 ?_
      refine T.skip (thenS_normal ?_)
      refine T.block ?_
      refine T.regionL ?_
      refine mv rfl rfl rfl rfl rfl ?_
      refine mv rfl rfl rfl rfl rfl ?_
      obtain ⟨v_115, e_116, h⟩ := bind_some h
      refine sp rfl (OpT.callG (is := [0, 1]) (ph := []) rfl (dl rfl rfl) Try.func28 rfl rfl (Args.cons rfl Args.nil) (syntax_parser_row_T K rec_syntax_parser_alternative hrec_syntax_parser_alternative (bx0 := bx0) (wx0c1 := (γ_113 0)) e_116) (.cons rfl rfl (.cons rfl rfl (.nil))) (fun _ => rfl) (fun γ_117 => ?_))
      refine nm (.c (.c (.c (.n)))) ?_
      refine sp rfl (OpT.buildSlice (elems := ([v_115.1] : List Int).map (cI .i64)) rfl (dl rfl rfl) Try.underlying34 i3 (by decide) rfl (all1 rfl) rfl rfl rfl (lenAll rfl) (by decide) ?_)
      obtain ⟨g_119, h⟩ := ck_some h
      refine sp rfl (OpT.appendAM (i := 2) (xs := y3_0_6) (ys := [v_115.1]) (f := (cI .i64)) rfl (dl rfl rfl) Try.underlying34 i3 rfl rfl rfl rfl g_119 (fun w_118 => ?_))
      refine asg rfl rfl rfl rfl rfl ?_
      refine TL'.nil (inBlock_normal (thenS_normal ?_))
      refine TL.by_turn ?_ (ih v_115.2.reader.s v_115.2.reader.at_ v_115.2.reader.where_ v_115.2.reader.e v_115.2.deep v_115.2.nodes (y3_0_6 ++ [v_115.1]) (γ_117 0) w_118 h)
      exact Turn.rp (.cons rfl (.cons rfl (.nil _))) (.c .z (.c .z (.c .z (.n _))))
    · refine T.condF rfl c_114 ?_
      refine T.exit (thenS_exit (thenS_exit (inBlock_exit (thenS_normal ?_))))
      refine T.seq ?_
      refine T.regionL ?_
      refine mv rfl rfl rfl rfl rfl ?_
      refine mv rfl rfl rfl rfl rfl ?_
      obtain ⟨v_120, e_121, h⟩ := bind_some h
      refine sp rfl (OpT.callG (is := [0, 1]) (ph := []) rfl (dl rfl rfl) Try.func30 rfl rfl (Args.cons rfl (Args.cons rfl (Args.view (i := 2) rfl rfl Args.nil))) (syntax_parser_join_T K (bx0 := bx0) (wx0c1 := (γ_113 0)) (flx2 := false) e_121) (.cons rfl rfl (.cons rfl rfl (.nil))) (fun _ => rfl) (fun γ_122 => ?_))
      refine nm (.c (.c (.c (.n)))) ?_
      refine asg rfl rfl rfl rfl rfl ?_
      refine TL'.nil (thenS_normal ?_)
      refine T.ret ?_
      exact Fin.doneK (.cons _ _ _ _ (.tmp 2 _ rfl) .nil) (.cons 0 rfl (.cons 0 rfl (.nil _))) (by cases h; exact ⟨gl [γ_122 0], rfl, rfl⟩)

theorem syntax_parser_alternative_b_T (K : Nat) (rec_syntax_parser_alternative : syntax_parser → Option (Int × syntax_parser)) (hrec_syntax_parser_alternative : syntax_parser_alternative_S rec_syntax_parser_alternative) {x0 : syntax_parser} {bx0 : Nat} {wx0c1 : Value} {r : Int × syntax_parser} (h : syntax_parser_alternative_b K rec_syntax_parser_alternative x0 = some r) : CallG Try.prog 18 [.ptr bx0 0] [.box bx0 47 [.d (.str x0.reader.s), .d (.int .i64 x0.reader.at_), .d (.int .i64 x0.reader.where_), .d (.int .i64 x0.reader.e), .d (.ex wx0c1), .d (.int .i64 x0.deep)], .arrA wx0c1 36 9 (x0.nodes.map c_api_Node)] (fun γ => (.int .i64 r.1)) (fun γ => [.box bx0 47 [.d (.str r.2.reader.s), .d (.int .i64 r.2.reader.at_), .d (.int .i64 r.2.reader.where_), .d (.int .i64 r.2.reader.e), .d (.ex (γ 0)), .d (.int .i64 r.2.deep)], .arrA (γ 0) 36 9 (r.2.nodes.map c_api_Node)]) := by
  refine CallT.intro Try.func18 rfl (Nat.le_of_ble_eq_true rfl) ?_
  show T Try.prog 19 (Code.at [] (codeOf Try.f18)) ⟨paramSlots 0 [.ptr bx0 0], [.box bx0 47 [.d (.str x0.reader.s), .d (.int .i64 x0.reader.at_), .d (.int .i64 x0.reader.where_), .d (.int .i64 x0.reader.e), .d (.ex wx0c1), .d (.int .i64 x0.deep)], .arrA wx0c1 36 9 (x0.nodes.map c_api_Node)]⟩ (syntax_parser_alternative_q bx0 r)
  unfold syntax_parser_alternative_b at h
  refine T.seq ?_
  refine T.regionL ?_
  refine asg rfl rfl rfl rfl rfl ?_
  refine TL'.nil (thenS_normal ?_)
  refine T.seq ?_
  refine T.regionL ?_
  refine mv rfl rfl rfl rfl rfl ?_
  obtain ⟨v_107, e_108, h⟩ := bind_some h
  refine sp rfl (OpT.callG (is := [0, 1]) (ph := []) rfl (dl rfl rfl) Try.func28 rfl rfl (Args.cons rfl Args.nil) (syntax_parser_row_T K rec_syntax_parser_alternative hrec_syntax_parser_alternative (bx0 := bx0) (wx0c1 := wx0c1) e_108) (.cons rfl rfl (.cons rfl rfl (.nil))) (fun _ => rfl) (fun γ_109 => ?_))
  refine nm (.c (.c (.n))) ?_
  refine sp rfl (OpT.buildSlice (elems := ([v_107.1] : List Int).map (cI .i64)) rfl (dl rfl rfl) Try.underlying34 i3 (by decide) rfl (all1 rfl) rfl rfl rfl (lenAll rfl) (by decide) ?_)
  refine asg rfl rfl rfl rfl rfl ?_
  refine TL'.nil (thenS_normal ?_)
  refine T.seq ?_
  refine T.block ?_
  refine T.loop ?_
  refine TL.by_turnG (TurnG.ownFull 3 3 rfl) (fun w_110 => ?_)
  refine TL.by_turn ?_ (syntax_parser_alternative_l0_T K rec_syntax_parser_alternative hrec_syntax_parser_alternative bx0 K v_107.2.reader.s v_107.2.reader.at_ v_107.2.reader.where_ v_107.2.reader.e v_107.2.deep v_107.2.nodes [v_107.1] (γ_109 0) w_110 h)
  exact Turn.rp (.cons rfl (.cons rfl (.nil _))) (.c (.s .z) (.c (.s .z) (.c .z (.n _))))

theorem syntax_parser_alternative_r_T (K : Nat) : ∀ n, syntax_parser_alternative_S (syntax_parser_alternative_r K n) := by
  intro n
  induction n with
  | zero =>
    intro x0 bx0 wx0c1 r h
    cases (show (none : Option (Int × syntax_parser)) = some r from h)
  | succ n ih =>
    intro x0 bx0 wx0c1 r h
    exact syntax_parser_alternative_b_T K (syntax_parser_alternative_r K n) ih h

theorem syntax_parser_alternative_T (K : Nat) {x0 : syntax_parser} {bx0 : Nat} {wx0c1 : Value} {r : Int × syntax_parser} (h : syntax_parser_alternative K x0 = some r) : CallG Try.prog 18 [.ptr bx0 0] [.box bx0 47 [.d (.str x0.reader.s), .d (.int .i64 x0.reader.at_), .d (.int .i64 x0.reader.where_), .d (.int .i64 x0.reader.e), .d (.ex wx0c1), .d (.int .i64 x0.deep)], .arrA wx0c1 36 9 (x0.nodes.map c_api_Node)] (fun γ => (.int .i64 r.1)) (fun γ => [.box bx0 47 [.d (.str r.2.reader.s), .d (.int .i64 r.2.reader.at_), .d (.int .i64 r.2.reader.where_), .d (.int .i64 r.2.reader.e), .d (.ex (γ 0)), .d (.int .i64 r.2.deep)], .arrA (γ 0) 36 9 (r.2.nodes.map c_api_Node)]) := syntax_parser_alternative_r_T K K x0 bx0 wx0c1 r h

abbrev syntax_Parse_q (r : (List api_Node) × Int × Int) : Exit → St → Prop := retS Try.prog Try.f10 (fun y t => y = (.tup [.sl false 9 (r.1.map c_api_Node), .int .i64 r.2.1, .int .i64 r.2.2]) ∧ t = [])

theorem syntax_Parse_j0_T {r : (List api_Node) × Int × Int} (K : Nat) (y5_0_0 : ByteArray) (y5_0_1 : Int) (y5_0_2 : Int) (y5_0_3 : Int) (y5_0_5 : Int) (y5_0_4 : List api_Node) (b5_0 : Nat) (w5_0 : Value) (h : syntax_Parse_j0 K y5_0_0 y5_0_1 y5_0_2 y5_0_3 y5_0_5 y5_0_4 = some r) : T Try.prog 62 (Code.at [1, 1, 1, 1, 1] (codeOf Try.f10)) ⟨[(5, .ptr b5_0 0)], [.box b5_0 47 [.d (.str y5_0_0), .d (.int .i64 y5_0_1), .d (.int .i64 y5_0_2), .d (.int .i64 y5_0_3), .d (.ex w5_0), .d (.int .i64 y5_0_5)], .arrA w5_0 36 9 (y5_0_4.map c_api_Node)]⟩ (syntax_Parse_q r) := by
  unfold syntax_Parse_j0 at h
  refine T.seq ?_
  refine T.block ?_
  refine T.seq ?_
  refine T.regionL ?_
  refine mv rfl rfl rfl rfl rfl ?_
  refine sp rfl (OpT.nilCheck rfl (dl rfl rfl) rfl rfl ?_)
  refine sp rfl (OpT.fieldPtr rfl (dl rfl rfl) Try.underlying47 rfl i45 (by decide) rfl ?_)
  refine sp rfl (OpT.fieldPtr rfl (dl rfl rfl) Try.underlying45 rfl i24 (by decide) rfl ?_)
  refine sp rfl (OpT.loadBox (i := 0) rfl (dl rfl rfl) Try.underlying24 rfl rfl rfl rfl ?_)
  refine sp rfl (OpT.int2 rfl rfl (dl rfl rfl) rfl rfl ?_)
  refine asg rfl rfl rfl rfl rfl ?_
  refine TL'.nil (thenS_normal ?_)
  rcases bif_some h with ⟨c_151, h⟩ | ⟨c_151, h⟩
  · refine T.condT rfl c_151 ?_
    refine T.seq ?_
    refine DG.start ?_
    refine DG.mv rfl rfl rfl rfl rfl rfl ?_
    refine DG.step (c := ⟨some 42, .ptr b5_0 0, [(41, .ptr b5_0 0)], [], []⟩) (fun t hm => One.step rfl (.free rfl) (OpT.nilCheck rfl (dl rfl rfl) hm.s0 rfl rfl)) (Ct.met_of rfl rfl) ?_
    refine DG.step (c := ⟨some 43, .ptr b5_0 (0 + 0), [(42, .ptr b5_0 0)], [], []⟩) (fun t hm => One.step rfl (.free rfl) (OpT.fieldPtr rfl (dl rfl rfl) Try.underlying47 rfl i45 (by decide) hm.s0 rfl)) (Ct.met_of rfl rfl) ?_
    refine DG.step (c := ⟨some 44, .ptr b5_0 (0 + 0 + 2), [(43, .ptr b5_0 (0 + 0))], [], []⟩) (fun t hm => One.step rfl (.free rfl) (OpT.fieldPtr rfl (dl rfl rfl) Try.underlying45 rfl i3 (by decide) hm.s0 rfl)) (Ct.met_of rfl rfl) ?_
    refine DG.step (c := ⟨some 45, .int .i64 y5_0_2, [(44, .ptr b5_0 (0 + 0 + 2))], [(0, .box b5_0 47 [.d (.str y5_0_0), .d (.int .i64 y5_0_1), .d (.int .i64 y5_0_2), .d (.int .i64 y5_0_3), .d (.ex w5_0), .d (.int .i64 y5_0_5)])], []⟩) (fun t hm => One.step rfl (.free rfl) (OpT.loadBox (i := 0) rfl (dl rfl rfl) Try.underlying3 rfl hm.s0 hm.o0 rfl rfl)) (Ct.met_of rfl rfl) ?_
    refine DG.mv rfl rfl rfl rfl rfl rfl ?_
    refine DG.step (c := ⟨some 47, .ptr b5_0 0, [(46, .ptr b5_0 0)], [], []⟩) (fun t hm => One.step rfl (.free rfl) (OpT.nilCheck rfl (dl rfl rfl) hm.s0 rfl rfl)) (Ct.met_of rfl rfl) ?_
    refine DG.step (c := ⟨some 48, .ptr b5_0 (0 + 0), [(47, .ptr b5_0 0)], [], []⟩) (fun t hm => One.step rfl (.free rfl) (OpT.fieldPtr rfl (dl rfl rfl) Try.underlying47 rfl i45 (by decide) hm.s0 rfl)) (Ct.met_of rfl rfl) ?_
    refine DG.step (c := ⟨some 49, .ptr b5_0 (0 + 0 + 3), [(48, .ptr b5_0 (0 + 0))], [], []⟩) (fun t hm => One.step rfl (.free rfl) (OpT.fieldPtr rfl (dl rfl rfl) Try.underlying45 rfl i24 (by decide) hm.s0 rfl)) (Ct.met_of rfl rfl) ?_
    refine DG.step (c := ⟨some 50, .int .i64 y5_0_3, [(49, .ptr b5_0 (0 + 0 + 3))], [(0, .box b5_0 47 [.d (.str y5_0_0), .d (.int .i64 y5_0_1), .d (.int .i64 y5_0_2), .d (.int .i64 y5_0_3), .d (.ex w5_0), .d (.int .i64 y5_0_5)])], []⟩) (fun t hm => One.step rfl (.free rfl) (OpT.loadBox (i := 0) rfl (dl rfl rfl) Try.underlying24 rfl hm.s0 hm.o0 rfl rfl)) (Ct.met_of rfl rfl) ?_
    refine DG.step (c := ⟨some 2, .c (.ex (.slice none 0 0)), [], [], []⟩) (fun t hm => One.step rfl (.free rfl) (OpT.assign rfl (dl rfl rfl) rfl rfl)) (Ct.met_of rfl rfl) ?_
    refine DG.step (c := ⟨some 3, .int .i64 y5_0_2, [(45, .int .i64 y5_0_2)], [], []⟩) (fun t hm => One.step rfl (.free rfl) (OpT.assign rfl (dl rfl rfl) hm.s0 rfl)) (Ct.met_of rfl rfl) ?_
    refine DG.step (c := ⟨some 4, .int .i64 y5_0_3, [(50, .int .i64 y5_0_3)], [], []⟩) (fun t hm => One.step rfl (.free rfl) (OpT.assign rfl (dl rfl rfl) hm.s0 rfl)) (Ct.met_of rfl rfl) ?_
    refine DG.fin (s1 := ⟨[(2, .c (.ex (.slice none 0 0))), (3, .int .i64 y5_0_2), (4, .int .i64 y5_0_3)], [.box b5_0 47 [.d (.str y5_0_0), .d (.int .i64 y5_0_1), .d (.int .i64 y5_0_2), .d (.int .i64 y5_0_3), .d (.ex w5_0), .d (.int .i64 y5_0_5)], .arrA w5_0 36 9 (y5_0_4.map c_api_Node)]⟩) (ms := [0, 1, 3, 7, 15, 0, 32, 96, 224, 480, 0, 1055, 4095]) TryMixed rfl (by kernel_rfl) (by kernel_rfl) (by kernel_rfl) (.cons rfl (.cons rfl (.cons rfl (.nil _)))) rfl (fun u hu => (thenS_normal (T.by_turn hu ?_)))
    refine T.ret (inBlock_ret (thenS_ret ?_))
    refine Fin.turn (Turn.nilSl 2 false 9 rfl) ?_
    exact Fin.done (.cons _ _ _ _ (.tmp 2 _ rfl) (.cons _ _ _ _ (.tmp 3 _ rfl) (.cons _ _ _ _ (.tmp 4 _ rfl) .nil))) (by cases h; exact ⟨rfl, rfl⟩)
  · refine T.condF rfl c_151 ?_
    refine T.seq ?_
    refine T.regionL ?_
    refine mv rfl rfl rfl rfl rfl ?_
    refine sp rfl (OpT.nilCheck rfl (dl rfl rfl) rfl rfl ?_)
    refine sp rfl (OpT.fieldPtr rfl (dl rfl rfl) Try.underlying47 rfl i23 (by decide) rfl ?_)
    refine sp rfl (OpT.thenTurn (OpT.loadBox (i := 0) rfl (dl rfl rfl) Try.underlying23 rfl rfl rfl rfl rfl) (Turn.viewP 55 1 rfl) ?_)
    refine sp rfl (OpT.lenSlM (xs := y5_0_4) (f := c_api_Node) rfl (dl rfl rfl) Try.underlying23 rfl ?_)
    refine sp rfl (OpT.int2 rfl rfl (dl rfl rfl) rfl rfl ?_)
    refine asg rfl rfl rfl rfl rfl ?_
    refine TL'.nil (thenS_normal ?_)
    rcases bif_some h with ⟨c_153, h⟩ | ⟨c_153, h⟩
    · refine T.condT rfl c_153 ?_
      refine T.seq ?_
      refine T.regionL ?_
      refine asg rfl rfl rfl rfl rfl ?_
      refine asg rfl rfl rfl rfl rfl ?_
      refine asg rfl rfl rfl rfl rfl ?_
      refine TL'.nil (thenS_normal ?_)
      refine T.ret (inBlock_ret (thenS_ret ?_))
      refine Fin.turn (Turn.nilSl 2 false 9 rfl) ?_
      exact Fin.done (.cons _ _ _ _ (.tmp 2 _ rfl) (.cons _ _ _ _ (.tmp 3 _ rfl) (.cons _ _ _ _ (.tmp 4 _ rfl) .nil))) (by cases h; exact ⟨rfl, rfl⟩)
    · refine T.condF rfl c_153 ?_
      refine T.skip (inBlock_normal (thenS_normal ?_))
      refine T.seq ?_
      refine T.regionL ?_
      refine mv rfl rfl rfl rfl rfl ?_
      refine sp rfl (OpT.nilCheck rfl (dl rfl rfl) rfl rfl ?_)
      refine sp rfl (OpT.fieldPtr rfl (dl rfl rfl) Try.underlying47 rfl i23 (by decide) rfl ?_)
      refine sp rfl (OpT.loadBox (i := 0) rfl (dl rfl rfl) Try.underlying23 rfl rfl rfl rfl ?_)
      refine asg rfl rfl rfl rfl rfl ?_
      refine asg rfl rfl rfl rfl rfl ?_
      refine asg rfl rfl rfl rfl rfl ?_
      refine TL'.nil (thenS_normal ?_)
      refine T.ret ?_
      refine Fin.turn (Turn.view 2 1 rfl rfl) ?_
      exact Fin.done (.cons _ _ _ _ (.tmp 2 _ rfl) (.cons _ _ _ _ (.tmp 3 _ rfl) (.cons _ _ _ _ (.tmp 4 _ rfl) .nil))) (by cases h; exact ⟨rfl, rfl⟩)

theorem syntax_Parse_T (K : Nat) {x0 : ByteArray} {r : (List api_Node) × Int × Int} (h : syntax_Parse K x0 = some r) : CallR Try.prog 10 [.str x0] [] (.tup [.sl false 9 (r.1.map c_api_Node), .int .i64 r.2.1, .int .i64 r.2.2]) := by
  refine CallT.intro Try.func10 rfl (Nat.le_of_ble_eq_true rfl) ?_
  show T Try.prog 62 (Code.at [] (codeOf Try.f10)) ⟨paramSlots 0 [.str x0], []⟩ (syntax_Parse_q r)
  unfold syntax_Parse at h
  refine T.seq ?_
  refine T.regionL ?_
  refine asg rfl rfl rfl rfl rfl ?_
  refine asg rfl rfl rfl rfl rfl ?_
  refine asg rfl rfl rfl rfl rfl ?_
  refine TL'.nil (thenS_normal ?_)
  refine T.seq ?_
  refine T.seq ?_
  refine T.regionL ?_
  refine mv rfl rfl rfl rfl rfl ?_
  refine sp rfl (OpT.lenStr rfl (dl rfl rfl) Try.underlying9 rfl ?_)
  refine sp rfl (OpT.int2 rfl rfl (dl rfl rfl) rfl rfl ?_)
  refine TL'.nil (thenS_normal ?_)
  rcases bif_some h with ⟨c_137, h⟩ | ⟨c_137, h⟩
  · refine T.condT rfl c_137 ?_
    refine T.seq ?_
    refine T.regionL ?_
    refine asg rfl rfl rfl rfl rfl ?_
    refine asg rfl rfl rfl rfl rfl ?_
    refine asg rfl rfl rfl rfl rfl ?_
    refine TL'.nil (thenS_normal ?_)
    refine T.ret (thenS_ret ?_)
    refine Fin.turn (Turn.nilSl 2 false 9 rfl) ?_
    exact Fin.done (.cons _ _ _ _ (.tmp 2 _ rfl) (.cons _ _ _ _ (.tmp 3 _ rfl) (.cons _ _ _ _ (.tmp 4 _ rfl) .nil))) (by cases h; exact ⟨rfl, rfl⟩)
  · refine T.condF rfl c_137 ?_
    refine T.skip (thenS_normal ?_)
    refine T.seq ?_
    refine T.regionL ?_
    refine mv rfl rfl rfl rfl rfl ?_
    refine sp rfl (OpT.build (l := [.str x0, .int .i64 (0 : Int), .int .i64 (0 : Int), .int .i64 (0 : Int)]) rfl (dl rfl rfl) (built_struct (pl := [(0, 1), (1, 1), (2, 1), (3, 1)]) Try.underlying45 i45 rfl) (all1 rfl) rfl rfl ?_)
    refine sp rfl (OpT.build (l := [.str x0, .int .i64 (0 : Int), .int .i64 (0 : Int), .int .i64 (0 : Int), .ex (.slice none 0 0), .int .i64 (0 : Int)]) rfl (dl rfl rfl) (built_struct (pl := [(0, 4), (4, 1), (5, 1)]) Try.underlying47 i47 rfl) (all1 rfl) rfl rfl ?_)
    refine sp rfl (OpT.boxAgg rfl (dl rfl rfl) rfl (fun b_138 => ?_))
    refine asg rfl rfl rfl rfl rfl ?_
    refine TL'.nil (thenS_normal ?_)
    refine T.seq ?_
    refine T.regionL ?_
    refine mv rfl rfl rfl rfl rfl ?_
    refine TL'.turn (Turn.nilA 36 9) ?_
    obtain ⟨v_139, e_140, h⟩ := bind_some h
    refine sp rfl (OpT.callG (is := [1, 0]) (ph := []) rfl (dl rfl rfl) Try.func18 rfl rfl (Args.cons rfl Args.nil) (syntax_parser_alternative_T K (bx0 := b_138) (wx0c1 := (nilv 9)) e_140) (.cons rfl rfl (.cons rfl rfl (.nil))) (fun _ => rfl) (fun γ_141 => ?_))
    refine nm (.c (.c (.n))) ?_
    refine TL'.nil (thenS_normal ?_)
    refine T.seq ?_
    refine T.seq ?_
    refine T.regionL ?_
    refine mv rfl rfl rfl rfl rfl ?_
    refine sp rfl (OpT.nilCheck rfl (dl rfl rfl) rfl rfl ?_)
    refine sp rfl (OpT.fieldPtr rfl (dl rfl rfl) Try.underlying47 rfl i45 (by decide) rfl ?_)
    obtain ⟨v_142, e_143, h⟩ := bind_some h
    refine sp rfl (OpT.callG (is := [1, 0]) (ph := []) rfl (dl rfl rfl) Try.func19 rfl rfl (Args.cons rfl Args.nil) (syntax_reader_peek_T K (bx0 := b_138) (wx0c1 := (γ_141 0)) e_143) (.cons rfl rfl (.cons rfl rfl (.nil))) (fun _ => rfl) (fun γ_144 => ?_))
    refine nm (.c (.c (.n))) ?_
    refine mv rfl rfl rfl rfl rfl ?_
    refine sp rfl (OpT.extract rfl (dl rfl rfl) rfl rfl ?_)
    refine sp rfl (OpT.extract rfl (dl rfl rfl) rfl rfl ?_)
    refine asg rfl rfl rfl rfl rfl ?_
    refine asg rfl rfl rfl rfl rfl ?_
    refine TL'.nil (thenS_normal ?_)
    refine T.seq ?_
    refine T.regionL ?_
    refine mv rfl rfl rfl rfl rfl ?_
    refine TL'.nil (thenS_normal ?_)
    rcases bif_some h with ⟨c_145, h⟩ | ⟨c_145, h⟩
    · refine T.condT rfl c_145 ?_
      refine DGG.start ?_
      refine DGG.step (c := fun γ_146 => ⟨some 25, .ptr b_138 0, [(5, .ptr b_138 0)], [], []⟩) [] (fun _ _ _ => rfl) (fun γ_146 t hm => One.step rfl (.free rfl) (OpT.move rfl (dl rfl rfl) hm.s0 ⟨(fun _ => undef, 0), rfl⟩)) (fun γ_146 => Ct.met_of rfl rfl) ?_
      refine DGG.step (c := fun γ_146 => ⟨some 26, .ptr b_138 0, [(25, .ptr b_138 0)], [], []⟩) [] (fun _ _ _ => rfl) (fun γ_146 t hm => One.step rfl (.free rfl) (OpT.nilCheck rfl (dl rfl rfl) hm.s0 rfl ⟨(fun _ => undef, 0), rfl⟩)) (fun γ_146 => Ct.met_of rfl rfl) ?_
      refine DGG.step (c := fun γ_146 => ⟨some 27, .ptr b_138 (0 + 0), [(26, .ptr b_138 0)], [], []⟩) [] (fun _ _ _ => rfl) (fun γ_146 t hm => One.step rfl (.free rfl) (OpT.fieldPtr rfl (dl rfl rfl) Try.underlying47 rfl i45 (by decide) hm.s0 ⟨(fun _ => undef, 0), rfl⟩)) (fun γ_146 => Ct.met_of rfl rfl) ?_
      refine DGG.step (c := fun γ_146 => ⟨some 28, .ptr b_138 0, [(5, .ptr b_138 0)], [], []⟩) [] (fun _ _ _ => rfl) (fun γ_146 t hm => One.step rfl (.free rfl) (OpT.move rfl (dl rfl rfl) hm.s0 ⟨(fun _ => undef, 0), rfl⟩)) (fun γ_146 => Ct.met_of rfl rfl) ?_
      refine DGG.step (c := fun γ_146 => ⟨some 29, .ptr b_138 0, [(28, .ptr b_138 0)], [], []⟩) [] (fun _ _ _ => rfl) (fun γ_146 t hm => One.step rfl (.free rfl) (OpT.nilCheck rfl (dl rfl rfl) hm.s0 rfl ⟨(fun _ => undef, 0), rfl⟩)) (fun γ_146 => Ct.met_of rfl rfl) ?_
      refine DGG.step (c := fun γ_146 => ⟨some 30, .ptr b_138 (0 + 0), [(29, .ptr b_138 0)], [], []⟩) [] (fun _ _ _ => rfl) (fun γ_146 t hm => One.step rfl (.free rfl) (OpT.fieldPtr rfl (dl rfl rfl) Try.underlying47 rfl i45 (by decide) hm.s0 ⟨(fun _ => undef, 0), rfl⟩)) (fun γ_146 => Ct.met_of rfl rfl) ?_
      refine DGG.step (c := fun γ_146 => ⟨some 31, .ptr b_138 (0 + 0 + 1), [(30, .ptr b_138 (0 + 0))], [], []⟩) [] (fun _ _ _ => rfl) (fun γ_146 t hm => One.step rfl (.free rfl) (OpT.fieldPtr rfl (dl rfl rfl) Try.underlying45 rfl i3 (by decide) hm.s0 ⟨(fun _ => undef, 0), rfl⟩)) (fun γ_146 => Ct.met_of rfl rfl) ?_
      refine DGG.step (c := fun γ_146 => ⟨some 32, .int .i64 v_139.2.reader.at_, [(31, .ptr b_138 (0 + 0 + 1))], [(1, .box b_138 47 [.d (.str v_139.2.reader.s), .d (.int .i64 v_139.2.reader.at_), .d (.int .i64 v_139.2.reader.where_), .d (.int .i64 v_139.2.reader.e), .d (.ex (γ_144 0)), .d (.int .i64 v_139.2.deep)])], []⟩) [] (fun _ _ _ => rfl) (fun γ_146 t hm => One.step rfl (.free rfl) (OpT.loadBox (i := 1) rfl (dl rfl rfl) Try.underlying3 rfl hm.s0 hm.o0 rfl ⟨(fun _ => undef, 0), rfl⟩)) (fun γ_146 => Ct.met_of rfl rfl) ?_
      obtain ⟨v_149, e_150, h⟩ := bind_some h
      refine DGG.step (c := fun γ_146 => ⟨some 33, .tup [], [(27, .ptr b_138 (0 + 0)), (32, .int .i64 v_139.2.reader.at_)], [(0, .arrA (γ_144 0) 36 9 (v_139.2.nodes.map c_api_Node)), (1, .box b_138 47 [.d (.str v_139.2.reader.s), .d (.int .i64 v_139.2.reader.at_), .d (.int .i64 v_139.2.reader.where_), .d (.int .i64 v_139.2.reader.e), .d (.ex (γ_144 0)), .d (.int .i64 v_139.2.deep)])], [(1, .box b_138 47 [.d (.str v_149.reader.s), .d (.int .i64 v_149.reader.at_), .d (.int .i64 v_149.reader.where_), .d (.int .i64 v_149.reader.e), .d (.ex ((γ_146 8).1 0)), .d (.int .i64 v_149.deep)]), (0, .arrA ((γ_146 8).1 0) 36 9 (v_149.nodes.map c_api_Node))]⟩) [8] (fun γ_146 γ' h => by simp only [h 8 (by decide)]) (fun γ_146 t hm => One.step rfl (.free rfl) (OpT.callG (is := [1, 0]) (ph := []) rfl (dl rfl rfl) Try.func20 rfl rfl (Args.cons hm.s0 (Args.cons rfl (Args.cons hm.s1 Args.nil))) (syntax_reader_fail_T K (bx0 := b_138) (wx0c1 := (γ_144 0)) e_150) (.cons hm.o1 rfl (.cons hm.o0 rfl (.nil))) (fun _ => rfl) (fun g => ⟨(g, 0), rfl⟩))) (fun γ_146 => Ct.met_of rfl rfl) ?_
      refine DGG.fin (s1 := fun γ_146 => ⟨[(5, .ptr b_138 0)], [.arrA ((γ_146 8).1 0) 36 9 (v_149.nodes.map c_api_Node), .box b_138 47 [.d (.str v_149.reader.s), .d (.int .i64 v_149.reader.at_), .d (.int .i64 v_149.reader.where_), .d (.int .i64 v_149.reader.e), .d (.ex ((γ_146 8).1 0)), .d (.int .i64 v_149.deep)]]⟩) (ms := [0, 1, 3, 0, 8, 24, 56, 120, 255]) TryMixed rfl (by kernel_rfl) (by kernel_rfl) (by kernel_rfl) (fun γ_146 => by kernel_rfl) (fun γ_146 => .cons rfl (.nil _)) (fun _ => rfl) (fun γ_146 u hu => (thenS_normal (T.by_turn hu ?_)))
      refine T.by_turn ?_ (syntax_Parse_j0_T K v_149.reader.s v_149.reader.at_ v_149.reader.where_ v_149.reader.e v_149.deep v_149.nodes b_138 ((γ_146 8).1 0) h)
      exact Turn.rp (.cons rfl (.nil _)) (.c (.s .z) (.c .z (.n _)))
    · refine T.condF rfl c_145 ?_
      refine T.skip (thenS_normal ?_)
      refine T.by_turn ?_ (syntax_Parse_j0_T K v_139.2.reader.s v_139.2.reader.at_ v_139.2.reader.where_ v_139.2.reader.e v_139.2.deep v_139.2.nodes b_138 (γ_144 0) h)
      exact Turn.rp (.cons rfl (.nil _)) (.c (.s .z) (.c .z (.n _)))

abbrev raddleref01_Has_q (r : Bool) : Exit → St → Prop := retS Try.prog Try.f36 (fun y t => y = (.bool r) ∧ t = [])

theorem raddleref01_Has_T (K : Nat) {x0 : Arr4} {x1 : Int} {r : Bool} (h : raddleref01_Has K x0 x1 = some r) : CallR Try.prog 36 [.agg (Arr4.dc .u64 x0), .int .u8 x1] [] (.bool r) := by
  refine CallT.intro Try.func36 rfl (Nat.le_of_ble_eq_true rfl) ?_
  show T Try.prog 14 (Code.at [] (codeOf Try.f36)) ⟨paramSlots 0 [.agg (Arr4.dc .u64 x0), .int .u8 x1], []⟩ (raddleref01_Has_q r)
  unfold raddleref01_Has at h
  refine T.seq ?_
  refine T.regionL ?_
  refine sp rfl (OpT.boxAgg rfl (dl rfl rfl) rfl (fun b_10 => ?_))
  refine asg rfl rfl rfl rfl rfl ?_
  refine TL'.nil (thenS_normal ?_)
  refine T.seq ?_
  refine T.regionL ?_
  refine mv rfl rfl rfl rfl rfl ?_
  refine sp rfl (OpT.quo rfl (dl rfl rfl) rfl rfl (by decide) ?_)
  obtain ⟨g_11, h⟩ := ck_some h
  refine sp rfl (OpT.indexPtr rfl (dl rfl rfl) Try.underlying33 i31 rfl rfl g_11.1 g_11.2 ?_)
  refine sp rfl (OpT.loadBox (i := 0) rfl (dl rfl rfl) Try.underlying31 rfl rfl rfl (Arr4.oc_get (k := .u64) (a := x0) (pre := []) (post := []) g_11.1 g_11.2) ?_)
  refine mv rfl rfl rfl rfl rfl ?_
  refine sp rfl (OpT.rem rfl (dl rfl rfl) rfl rfl (by decide) ?_)
  obtain ⟨g_12, h⟩ := ck_some h
  refine sp rfl (OpT.shr rfl (dl rfl rfl) rfl rfl g_12 ?_)
  refine sp rfl (OpT.rem rfl (dl rfl rfl) rfl rfl (by decide) ?_)
  refine sp rfl (OpT.int2 rfl rfl (dl rfl rfl) rfl rfl ?_)
  refine asg rfl rfl rfl rfl rfl ?_
  refine TL'.nil (thenS_normal ?_)
  refine T.ret ?_
  exact Fin.done (.cons _ _ _ _ (.tmp 4 _ rfl) .nil) (by cases h; exact ⟨rfl, rfl⟩)

abbrev raddleref01_with_q (r : Arr4) : Exit → St → Prop := retS Try.prog Try.f31 (fun y t => y = (.agg (Arr4.dc .u64 r)) ∧ t = [])

theorem raddleref01_with_T (K : Nat) {x0 : Arr4} {x1 : Int} {r : Arr4} (h : raddleref01_with K x0 x1 = some r) : CallR Try.prog 31 [.agg (Arr4.dc .u64 x0), .int .u8 x1] [] (.agg (Arr4.dc .u64 r)) := by
  refine CallT.intro Try.func31 rfl (Nat.le_of_ble_eq_true rfl) ?_
  show T Try.prog 21 (Code.at [] (codeOf Try.f31)) ⟨paramSlots 0 [.agg (Arr4.dc .u64 x0), .int .u8 x1], []⟩ (raddleref01_with_q r)
  unfold raddleref01_with at h
  refine T.seq ?_
  refine T.regionL ?_
  refine sp rfl (OpT.boxAgg rfl (dl rfl rfl) rfl (fun b_29 => ?_))
  refine sp rfl (OpT.alloc' rfl (dl rfl rfl) i33 rfl (fun b_30 => ?_))
  refine TL'.nil (thenS_normal ?_)
  refine T.seq ?_
  refine T.seq ?_
  refine T.regionL ?_
  refine sp rfl (OpT.loadBoxAgg (i := 1) (l := (Arr4.dc .u64 x0)) rfl (dl rfl rfl) Try.underlying33 rfl i33 rfl rfl rfl rfl ?_)
  refine mv rfl rfl rfl rfl rfl ?_
  obtain ⟨v_31, e_32, h⟩ := bind_some h
  refine sp rfl (OpT.callPA rfl (dl rfl rfl) Try.func36 rfl rfl (Args.cons rfl (Args.cons rfl Args.nil)) (CallR.nil (raddleref01_Has_T K e_32)) ?_)
  refine sp rfl (OpT.not rfl (dl rfl rfl) rfl ?_)
  refine TL'.nil (thenS_normal ?_)
  rcases bif_some h with ⟨c_33, h⟩ | ⟨c_33, h⟩
  · refine T.condT rfl c_33 ?_
    refine T.regionL ?_
    refine mv rfl rfl rfl rfl rfl ?_
    refine sp rfl (OpT.quo rfl (dl rfl rfl) rfl rfl (by decide) ?_)
    refine mv rfl rfl rfl rfl rfl ?_
    refine sp rfl (OpT.quo rfl (dl rfl rfl) rfl rfl (by decide) ?_)
    obtain ⟨g_34, h⟩ := ck_some h
    refine sp rfl (OpT.indexPtr rfl (dl rfl rfl) Try.underlying33 i31 rfl rfl g_34.1 g_34.2 ?_)
    refine sp rfl (OpT.loadBox (i := 1) rfl (dl rfl rfl) Try.underlying31 rfl rfl rfl (Arr4.oc_get (k := .u64) (a := x0) (pre := []) (post := []) g_34.1 g_34.2) ?_)
    refine mv rfl rfl rfl rfl rfl ?_
    refine sp rfl (OpT.rem rfl (dl rfl rfl) rfl rfl (by decide) ?_)
    obtain ⟨g_35, h⟩ := ck_some h
    refine sp rfl (OpT.shl rfl (dl rfl rfl) rfl rfl g_35 ?_)
    refine sp rfl (OpT.int2 rfl rfl (dl rfl rfl) rfl rfl ?_)
    refine sp rfl (OpT.indexPtr rfl (dl rfl rfl) Try.underlying33 i31 rfl rfl g_34.1 g_34.2 ?_)
    refine sp rfl (OpT.storeTo (i := 1) (cells' := (Arr4.oc .u64 (Arr4.set x0 (IntKind.u8.wrap (Int.tdiv x1 (64 : Int))) (IntKind.u64.wrap ((Arr4.get x0 (IntKind.u8.wrap (Int.tdiv x1 (64 : Int)))) + (IntKind.u64.wrap ((1 : Int) * 2 ^ min (Int.toNat (Int.tmod x1 (64 : Int))) IntKind.u64.bits))))))) rfl rfl i31 rfl rfl rfl (Arr4.oc_lt (k := .u64) (a := x0) (pre := []) (post := []) g_34.1 g_34.2) (Arr4.oc_set (k := .u64) (a := x0) (pre := []) (post := []) g_34.1 g_34.2) ?_)
    refine TL'.nil (thenS_normal ?_)
    refine T.seq ?_
    refine T.regionL ?_
    refine sp rfl (OpT.loadBoxAgg (i := 1) (l := (Arr4.dc .u64 (Arr4.set x0 (IntKind.u8.wrap (Int.tdiv x1 (64 : Int))) (IntKind.u64.wrap ((Arr4.get x0 (IntKind.u8.wrap (Int.tdiv x1 (64 : Int)))) + (IntKind.u64.wrap ((1 : Int) * 2 ^ min (Int.toNat (Int.tmod x1 (64 : Int))) IntKind.u64.bits))))))) rfl (dl rfl rfl) Try.underlying33 rfl i33 rfl rfl rfl rfl ?_)
    refine sp rfl (OpT.storeAggTo (i := 0) (cells' := (Arr4.oc .u64 (Arr4.set x0 (IntKind.u8.wrap (Int.tdiv x1 (64 : Int))) (IntKind.u64.wrap ((Arr4.get x0 (IntKind.u8.wrap (Int.tdiv x1 (64 : Int)))) + (IntKind.u64.wrap ((1 : Int) * 2 ^ min (Int.toNat (Int.tmod x1 (64 : Int))) IntKind.u64.bits))))))) rfl rfl i33 rfl rfl rfl rfl (Nat.le_of_ble_eq_true rfl) rfl ?_)
    refine TL'.nil (thenS_normal ?_)
    refine T.ret ?_
    exact Fin.done (.cons _ _ _ _ (.cellAgg 4 33 _ 0 0 33 _ (Arr4.dc .u64 (Arr4.set x0 (IntKind.u8.wrap (Int.tdiv x1 (64 : Int))) (IntKind.u64.wrap ((Arr4.get x0 (IntKind.u8.wrap (Int.tdiv x1 (64 : Int)))) + (IntKind.u64.wrap ((1 : Int) * 2 ^ min (Int.toNat (Int.tmod x1 (64 : Int))) IntKind.u64.bits)))))) _ _ 4 _ rfl rfl rfl rfl Try.underlying33 rfl i33) .nil) (by cases h; exact ⟨rfl, rfl⟩)
  · refine T.condF rfl c_33 ?_
    refine T.skip (thenS_normal ?_)
    refine T.seq ?_
    refine T.regionL ?_
    refine sp rfl (OpT.loadBoxAgg (i := 1) (l := (Arr4.dc .u64 x0)) rfl (dl rfl rfl) Try.underlying33 rfl i33 rfl rfl rfl rfl ?_)
    refine sp rfl (OpT.storeAggTo (i := 0) (cells' := (Arr4.oc .u64 x0)) rfl rfl i33 rfl rfl rfl rfl (Nat.le_of_ble_eq_true rfl) rfl ?_)
    refine TL'.nil (thenS_normal ?_)
    refine T.ret ?_
    exact Fin.done (.cons _ _ _ _ (.cellAgg 4 33 _ 0 0 33 _ (Arr4.dc .u64 x0) _ _ 4 _ rfl rfl rfl rfl Try.underlying33 rfl i33) .nil) (by cases h; exact ⟨rfl, rfl⟩)

abbrev raddleref01_Of_q (r : Arr4) : Exit → St → Prop := retS Try.prog Try.f21 (fun y t => y = (.agg (Arr4.dc .u64 r)) ∧ t = [])

abbrev raddleref01_Of_qs111 (r : Arr4) : Exit → St → Prop := thenS (fun s' => T Try.prog 19 (Code.at [1, 1, 1] (codeOf Try.f21)) s' ((raddleref01_Of_q r))) ((raddleref01_Of_q r))

abbrev raddleref01_Of_qb0x111 (r : Arr4) : Exit → St → Prop := inBlockS 0 ((raddleref01_Of_qs111 r))

theorem raddleref01_Of_l0_T {r : Arr4} (K : Nat) : ∀ (k : Nat), ∀ (x0 : List Int) (x4_0_3 : Int) (y2_0_1 : Arr4) (y3_0_2 : Arr4) (flx0 : Bool) (b2_0 : Nat) (b3_0 : Nat), raddleref01_Of_l0 K k x0 x4_0_3 y2_0_1 y3_0_2 = some r → TL Try.prog 19 (Code.at [1, 1, 0, 1, 0, 0] (codeOf Try.f21)) ⟨[(0, .sl flx0 1 (x0.map (cI .u8))), (2, .ptr b2_0 0), (3, .ptr b3_0 0), (4, .int .i64 x4_0_3)], [.box b2_0 33 (Arr4.oc .u64 y2_0_1), .box b3_0 33 (Arr4.oc .u64 y3_0_2)]⟩ (raddleref01_Of_qb0x111 r) := by
  intro k
  induction k with
  | zero =>
    intro x0 x4_0_3 y2_0_1 y3_0_2 flx0 b2_0 b3_0 h
    cases (show (none : Option Arr4) = some r from h)
  | succ k ih =>
    intro x0 x4_0_3 y2_0_1 y3_0_2 flx0 b2_0 b3_0 h
    rw [raddleref01_Of_l0] at h
    refine TL.round ?_
    refine T.seq ?_
    refine T.seq ?_
    refine T.regionL ?_
    refine mv rfl rfl rfl rfl rfl ?_
    refine mv rfl rfl rfl rfl rfl ?_
    refine sp rfl (OpT.lenSlM (xs := x0) (f := (cI .u8)) rfl (dl rfl rfl) Try.underlying38 rfl ?_)
    refine sp rfl (OpT.int2 rfl rfl (dl rfl rfl) rfl rfl ?_)
    refine TL'.nil (thenS_normal ?_)
    rcases bif_some h with ⟨c_99, h⟩ | ⟨c_99, h⟩
    · refine T.condT rfl c_99 ?_
      refine T.skip (thenS_normal ?_)
      refine T.seq ?_
      refine T.block ?_
      refine DG.start ?_
      refine DG.step (c := ⟨some 12, .agg (Arr4.dc .u64 y3_0_2), [(3, .ptr b3_0 0)], [(1, .box b3_0 33 (Arr4.oc .u64 y3_0_2))], []⟩) (fun t hm => One.step rfl (.free rfl) (OpT.loadBoxAgg (i := 1) (l := (Arr4.dc .u64 y3_0_2)) rfl (dl rfl rfl) Try.underlying33 rfl i33 hm.s0 hm.o0 rfl rfl rfl)) (Ct.met_of rfl rfl) ?_
      refine DG.mv rfl rfl rfl rfl rfl rfl ?_
      refine DG.mv rfl rfl rfl rfl rfl rfl ?_
      obtain ⟨v_105, e_106, h⟩ := bind_some h
      refine DG.step (c := ⟨some 15, .ref [.int .u8 v_105], [(13, .sl flx0 1 (x0.map (cI .u8))), (14, .int .i64 x4_0_3)], [], []⟩) (fun t hm => One.step rfl (.free rfl) (OpT.indexSlM (xs := x0) (f := (cI .u8)) (v := v_105) rfl (dl rfl rfl) Try.underlying38 i5 hm.s0 hm.s1 e_106 rfl)) (Ct.met_of rfl rfl) ?_
      refine DG.step (c := ⟨some 16, .int .u8 v_105, [(15, .ref [.int .u8 v_105])], [], []⟩) (fun t hm => One.step rfl (.free rfl) (OpT.loadRef rfl (dl rfl rfl) Try.underlying5 rfl hm.s0 rfl rfl)) (Ct.met_of rfl rfl) ?_
      obtain ⟨v_107, e_108, h⟩ := bind_some h
      refine DG.step (c := ⟨some 17, .agg (Arr4.dc .u64 v_107), [(12, .agg (Arr4.dc .u64 y3_0_2)), (16, .int .u8 v_105)], [], []⟩) (fun t hm => One.step rfl (.free rfl) (OpT.callPA rfl (dl rfl rfl) Try.func31 rfl rfl (Args.cons hm.s0 (Args.cons hm.s1 Args.nil)) (CallR.nil (raddleref01_with_T K e_108)) rfl)) (Ct.met_of rfl rfl) ?_
      refine DG.step (c := ⟨none, .any, [(3, .ptr b3_0 0), (17, .agg (Arr4.dc .u64 v_107))], [(1, .box b3_0 33 (Arr4.oc .u64 y3_0_2))], [(1, .box b3_0 33 (Arr4.oc .u64 v_107))]⟩) (fun t hm => One.step rfl (.free rfl) (OpT.storeAggTo (i := 1) (cells' := (Arr4.oc .u64 v_107)) rfl rfl i33 hm.s0 hm.s1 rfl hm.o0 (Nat.le_of_ble_eq_true rfl) rfl rfl)) (Ct.met_of rfl rfl) ?_
      refine DG.fin (s1 := ⟨[(0, .sl flx0 1 (x0.map (cI .u8))), (2, .ptr b2_0 0), (3, .ptr b3_0 0), (4, .int .i64 x4_0_3)], [.box b2_0 33 (Arr4.oc .u64 y2_0_1), .box b3_0 33 (Arr4.oc .u64 v_107)]⟩) (ms := [0, 0, 0, 6, 14, 31, 63]) TryMixed rfl (by kernel_rfl) (by kernel_rfl) (by kernel_rfl) (.cons rfl (.cons rfl (.cons rfl (.cons rfl (.nil _))))) rfl (fun u hu => (inBlock_normal (thenS_normal (T.by_turn hu ?_))))
      refine T.regionL ?_
      refine mv rfl rfl rfl rfl rfl ?_
      refine sp rfl (OpT.int2 rfl rfl (dl rfl rfl) rfl rfl ?_)
      refine asg rfl rfl rfl rfl rfl ?_
      refine TL'.nil (thenS_normal ?_)
      refine TL.by_turn ?_ (ih x0 (IntKind.i64.wrap (x4_0_3 + (1 : Int))) y2_0_1 v_107 flx0 b2_0 b3_0 h)
      exact Turn.rp (.cons rfl (.cons rfl (.cons rfl (.cons rfl (.nil _))))) (.c .z (.c .z (.n _)))
    · refine T.condF rfl c_99 ?_
      refine T.exit (thenS_exit (thenS_exit (inBlock_exit (thenS_normal ?_))))
      refine T.seq ?_
      refine T.regionL ?_
      refine sp rfl (OpT.loadBoxAgg (i := 1) (l := (Arr4.dc .u64 y3_0_2)) rfl (dl rfl rfl) Try.underlying33 rfl i33 rfl rfl rfl rfl ?_)
      refine sp rfl (OpT.storeAggTo (i := 0) (cells' := (Arr4.oc .u64 y3_0_2)) rfl rfl i33 rfl rfl rfl rfl (Nat.le_of_ble_eq_true rfl) rfl ?_)
      refine TL'.nil (thenS_normal ?_)
      refine T.ret ?_
      exact Fin.done (.cons _ _ _ _ (.cellAgg 2 33 _ 0 0 33 _ (Arr4.dc .u64 y3_0_2) _ _ 4 _ rfl rfl rfl rfl Try.underlying33 rfl i33) .nil) (by cases h; exact ⟨rfl, rfl⟩)

theorem raddleref01_Of_T (K : Nat) {x0 : List Int} {flx0 : Bool} {r : Arr4} (h : raddleref01_Of K x0 = some r) : CallR Try.prog 21 [.sl flx0 1 (x0.map (cI .u8))] [] (.agg (Arr4.dc .u64 r)) := by
  refine CallT.intro Try.func21 rfl (Nat.le_of_ble_eq_true rfl) ?_
  show T Try.prog 19 (Code.at [] (codeOf Try.f21)) ⟨paramSlots 0 [.sl flx0 1 (x0.map (cI .u8))], []⟩ (raddleref01_Of_q r)
  unfold raddleref01_Of at h
  refine T.seq ?_
  refine T.regionL ?_
  refine sp rfl (OpT.alloc' rfl (dl rfl rfl) i33 rfl (fun b_97 => ?_))
  refine TL'.nil (thenS_normal ?_)
  refine T.seq ?_
  refine T.regionL ?_
  refine sp rfl (OpT.build (l := (Arr4.dc .u64 (Arr4.mk 0 0 0 0))) rfl (dl rfl rfl) (built_arr Try.underlying33 i33 i31) (all1 rfl) rfl rfl ?_)
  refine sp rfl (OpT.alloc' rfl (dl rfl rfl) i33 rfl (fun b_98 => ?_))
  refine sp rfl (OpT.storeAggTo (i := 0) (cells' := (Arr4.oc .u64 (Arr4.mk 0 0 0 0))) rfl rfl i33 rfl rfl rfl rfl (Nat.le_of_ble_eq_true rfl) rfl ?_)
  refine TL'.nil (thenS_normal ?_)
  refine T.seq ?_
  refine T.seq ?_
  refine T.regionL ?_
  refine asg rfl rfl rfl rfl rfl ?_
  refine TL'.nil (thenS_normal ?_)
  refine T.block ?_
  refine T.loop ?_
  refine TL.by_turn ?_ (raddleref01_Of_l0_T K K x0 (0 : Int) (Arr4.mk 0 0 0 0) (Arr4.mk 0 0 0 0) flx0 b_97 b_98 h)
  exact Turn.rp (.cons rfl (.cons rfl (.cons rfl (.cons rfl (.nil _))))) (.c (.s .z) (.c .z (.n _)))

abbrev raddlelaw04_one_q (r : api_Node) : Exit → St → Prop := retS Try.prog Try.f13 (fun y t => y = (.agg [.int .u8 r.Op, .int .u64 r.S.a0, .int .u64 r.S.a1, .int .u64 r.S.a2, .int .u64 r.S.a3, .sl false 1 (r.L.map (cI .i64)), .int .i64 r.Lo, .int .i64 r.Hi, .str r.Name]) ∧ t = [])

theorem raddlelaw04_one_T (K : Nat) {x0 : Int} {r : api_Node} (h : raddlelaw04_one K x0 = some r) : CallR Try.prog 13 [.int .u8 x0] [] (.agg [.int .u8 r.Op, .int .u64 r.S.a0, .int .u64 r.S.a1, .int .u64 r.S.a2, .int .u64 r.S.a3, .sl false 1 (r.L.map (cI .i64)), .int .i64 r.Lo, .int .i64 r.Hi, .str r.Name]) := by
  refine CallT.intro Try.func13 rfl (Nat.le_of_ble_eq_true rfl) ?_
  show T Try.prog 7 (Code.at [] (codeOf Try.f13)) ⟨paramSlots 0 [.int .u8 x0], []⟩ (raddlelaw04_one_q r)
  unfold raddlelaw04_one at h
  refine T.seq ?_
  refine T.regionL ?_
  refine sp rfl (OpT.alloc' rfl (dl rfl rfl) i36 rfl (fun b_10 => ?_))
  refine TL'.nil (thenS_normal ?_)
  refine T.seq ?_
  refine T.regionL ?_
  refine mv rfl rfl rfl rfl rfl ?_
  refine sp rfl (OpT.buildSlice (elems := ([x0] : List Int).map (cI .u8)) rfl (dl rfl rfl) Try.underlying38 i5 (by decide) rfl (all1 rfl) rfl rfl rfl (lenAll rfl) (by decide) ?_)
  obtain ⟨v_11, e_12, h⟩ := bind_some h
  refine sp rfl (OpT.callPA rfl (dl rfl rfl) Try.func21 rfl rfl (Args.cons rfl Args.nil) (CallR.nil (raddleref01_Of_T K (flx0 := true) e_12)) ?_)
  refine sp rfl (OpT.thenTurn (OpT.build (l := [.int .u8 (2 : Int), .int .u64 v_11.a0, .int .u64 v_11.a1, .int .u64 v_11.a2, .int .u64 v_11.a3, .ex (.slice none 0 0), .int .i64 (0 : Int), .int .i64 (0 : Int), .str (⟨#[]⟩ : ByteArray)]) rfl (dl rfl rfl) (built_struct (pl := [(0, 1), (1, 4), (5, 1), (6, 1), (7, 1), (8, 1)]) Try.underlying36 i36 rfl) (all1 rfl) rfl rfl rfl) (Turn.weakSlotP 6 (l := [.int .u8 (2 : Int), .int .u64 v_11.a0, .int .u64 v_11.a1, .int .u64 v_11.a2, .int .u64 v_11.a3, .ex (.slice none 0 0), .int .i64 (0 : Int), .int .i64 (0 : Int), .str (⟨#[]⟩ : ByteArray)]) (l' := [.int .u8 (2 : Int), .int .u64 v_11.a0, .int .u64 v_11.a1, .int .u64 v_11.a2, .int .u64 v_11.a3, .sl false 1 (([] : List Int).map (cI .i64)), .int .i64 (0 : Int), .int .i64 (0 : Int), .str (⟨#[]⟩ : ByteArray)]) (.cons (.same _) (.cons (.same _) (.cons (.same _) (.cons (.same _) (.cons (.same _) (.cons (.nil _ _) (.cons (.same _) (.cons (.same _) (.cons (.same _) (.refl _))))))))))) ?_)
  refine sp rfl (OpT.storeAggTo (i := 0) (cells' := [.d (.int .u8 (2 : Int)), .d (.int .u64 v_11.a0), .d (.int .u64 v_11.a1), .d (.int .u64 v_11.a2), .d (.int .u64 v_11.a3), .d (.sl false 1 (([] : List Int).map (cI .i64))), .d (.int .i64 (0 : Int)), .d (.int .i64 (0 : Int)), .d (.str (⟨#[]⟩ : ByteArray))]) rfl rfl i36 rfl rfl rfl rfl (Nat.le_of_ble_eq_true rfl) rfl ?_)
  refine TL'.nil (thenS_normal ?_)
  refine T.ret ?_
  exact Fin.done (.cons _ _ _ _ (.cellAgg 2 36 _ 0 0 36 _ [.int .u8 (2 : Int), .int .u64 v_11.a0, .int .u64 v_11.a1, .int .u64 v_11.a2, .int .u64 v_11.a3, .sl false 1 (([] : List Int).map (cI .i64)), .int .i64 (0 : Int), .int .i64 (0 : Int), .str (⟨#[]⟩ : ByteArray)] _ _ 9 _ rfl rfl rfl rfl Try.underlying36 rfl i36) .nil) (by cases h; exact ⟨rfl, rfl⟩)

abbrev raddleref04_Same_q (r : Bool) : Exit → St → Prop := retS Try.prog Try.f11 (fun y t => y = (.bool r) ∧ t = [])

abbrev raddleref04_Same_qs111 (r : Bool) : Exit → St → Prop := thenS (fun s' => T Try.prog 88 (Code.at [1, 1, 1] (codeOf Try.f11)) s' ((raddleref04_Same_q r))) ((raddleref04_Same_q r))

abbrev raddleref04_Same_qb0x111 (r : Bool) : Exit → St → Prop := inBlockS 0 ((raddleref04_Same_qs111 r))

abbrev raddleref04_Same_ql11010 (r : Bool) : Exit → St → Prop := thenS (fun s' => TL Try.prog 88 (Code.at [1, 1, 0, 1, 0, 0] (codeOf Try.f11)) s' ((raddleref04_Same_qb0x111 r))) ((raddleref04_Same_qb0x111 r))

abbrev raddleref04_Same_qs11010011 (r : Bool) : Exit → St → Prop := thenS (fun s' => T Try.prog 88 (Code.at [1, 1, 0, 1, 0, 0, 1, 1] (codeOf Try.f11)) s' ((raddleref04_Same_ql11010 r))) ((raddleref04_Same_ql11010 r))

abbrev raddleref04_Same_qb1_0x11010011 (r : Bool) : Exit → St → Prop := inBlockS 1 ((raddleref04_Same_qs11010011 r))

abbrev raddleref04_Same_qs110100100111 (r : Bool) : Exit → St → Prop := thenS (fun s' => T Try.prog 88 (Code.at [1, 1, 0, 1, 0, 0, 1, 0, 0, 1, 1, 1] (codeOf Try.f11)) s' ((raddleref04_Same_qb1_0x11010011 r))) ((raddleref04_Same_qb1_0x11010011 r))

abbrev raddleref04_Same_qb2_1_0x11010011 (r : Bool) : Exit → St → Prop := inBlockS 2 ((raddleref04_Same_qb1_0x11010011 r))

theorem raddleref04_Same_j1_T {r : Bool} (K : Nat) (h : raddleref04_Same_j1 K = some r) : T Try.prog 88 (Code.at [1, 1, 0, 1, 0, 0, 1, 0, 0, 1, 1, 0, 1, 0] (codeOf Try.f11)) ⟨[], []⟩ (raddleref04_Same_qs110100100111 r) := by
  unfold raddleref04_Same_j1 at h
  refine T.seq ?_
  refine T.regionL ?_
  refine asg rfl rfl rfl rfl rfl ?_
  refine TL'.nil (thenS_normal ?_)
  refine T.ret (thenS_ret (inBlock_ret (thenS_ret (thenS_ret (inBlock_ret (thenS_ret ?_))))))
  exact Fin.done (.cons _ _ _ _ (.tmp 4 _ rfl) .nil) (by cases h; exact ⟨rfl, rfl⟩)

abbrev raddleref04_Same_l0_H (r : Bool) (go : (List api_Node) → (List api_Node) → Int → Option Bool) : Prop := ∀ (x0 : List api_Node) (x1 : List api_Node) (x5_0_2 : Int) (flx0 : Bool) (flx1 : Bool), go x0 x1 x5_0_2 = some r → TL Try.prog 88 (Code.at [1, 1, 0, 1, 0, 0] (codeOf Try.f11)) ⟨[(0, .sl flx0 9 (x0.map c_api_Node)), (1, .sl flx1 9 (x1.map c_api_Node)), (5, .int .i64 x5_0_2)], []⟩ (raddleref04_Same_qb0x111 r)

theorem raddleref04_Same_l2_T {r : Bool} (K : Nat) (go0 : (List api_Node) → (List api_Node) → Int → Option Bool) (hgo0 : raddleref04_Same_l0_H r go0) : ∀ (k : Nat), ∀ (x0 : List api_Node) (x1 : List api_Node) (x5_2_2 : Int) (x8_2_15 : Int) (x35_2_16 : Arr4) (x37_2_17 : Arr4) (x38_2_18 : Bool) (x42_2_19 : Int) (x44_2_20 : Int) (x45_2_21 : Bool) (x49_2_22 : Int) (x51_2_23 : Int) (x52_2_24 : Bool) (x56_2_25 : ByteArray) (x58_2_26 : ByteArray) (x59_2_27 : Bool) (x63_2_28 : List Int) (x64_2_29 : Int) (x66_2_30 : List Int) (x67_2_31 : Int) (x68_2_32 : Bool) (y6_2_3 : Int) (y6_2_4 : Arr4) (y6_2_5 : List Int) (y6_2_6 : Int) (y6_2_7 : Int) (y6_2_8 : ByteArray) (y7_2_9 : Int) (y7_2_10 : Arr4) (y7_2_11 : List Int) (y7_2_12 : Int) (y7_2_13 : Int) (y7_2_14 : ByteArray) (flx0 : Bool) (flx1 : Bool) (b6_2 : Nat) (b7_2 : Nat), raddleref04_Same_l2 K go0 k x0 x1 x5_2_2 x8_2_15 x35_2_16 x37_2_17 x38_2_18 x42_2_19 x44_2_20 x45_2_21 x49_2_22 x51_2_23 x52_2_24 x56_2_25 x58_2_26 x59_2_27 x63_2_28 x64_2_29 x66_2_30 x67_2_31 x68_2_32 y6_2_3 y6_2_4 y6_2_5 y6_2_6 y6_2_7 y6_2_8 y7_2_9 y7_2_10 y7_2_11 y7_2_12 y7_2_13 y7_2_14 = some r → TL Try.prog 88 (Code.at [1, 1, 0, 1, 0, 0, 1, 0, 0, 1, 1, 1, 1, 0, 0] (codeOf Try.f11)) ⟨[(0, .sl flx0 9 (x0.map c_api_Node)), (1, .sl flx1 9 (x1.map c_api_Node)), (5, .int .i64 x5_2_2), (6, .ptr b6_2 0), (7, .ptr b7_2 0), (8, .int .i64 x8_2_15), (34, .ptr b6_2 (0 + 1)), (35, .agg (Arr4.dc .u64 x35_2_16)), (36, .ptr b7_2 (0 + 1)), (37, .agg (Arr4.dc .u64 x37_2_17)), (38, .bool x38_2_18), (41, .ptr b6_2 (0 + 6)), (42, .int .i64 x42_2_19), (43, .ptr b7_2 (0 + 6)), (44, .int .i64 x44_2_20), (45, .bool x45_2_21), (48, .ptr b6_2 (0 + 7)), (49, .int .i64 x49_2_22), (50, .ptr b7_2 (0 + 7)), (51, .int .i64 x51_2_23), (52, .bool x52_2_24), (55, .ptr b6_2 (0 + 8)), (56, .str x56_2_25), (57, .ptr b7_2 (0 + 8)), (58, .str x58_2_26), (59, .bool x59_2_27), (62, .ptr b6_2 (0 + 5)), (63, .sl false 1 (x63_2_28.map (cI .i64))), (64, .int .i64 x64_2_29), (65, .ptr b7_2 (0 + 5)), (66, .sl false 1 (x66_2_30.map (cI .i64))), (67, .int .i64 x67_2_31), (68, .bool x68_2_32)], [.box b6_2 36 [.d (.int .u8 y6_2_3), .d (.int .u64 y6_2_4.a0), .d (.int .u64 y6_2_4.a1), .d (.int .u64 y6_2_4.a2), .d (.int .u64 y6_2_4.a3), .d (.sl false 1 (y6_2_5.map (cI .i64))), .d (.int .i64 y6_2_6), .d (.int .i64 y6_2_7), .d (.str y6_2_8)], .box b7_2 36 [.d (.int .u8 y7_2_9), .d (.int .u64 y7_2_10.a0), .d (.int .u64 y7_2_10.a1), .d (.int .u64 y7_2_10.a2), .d (.int .u64 y7_2_10.a3), .d (.sl false 1 (y7_2_11.map (cI .i64))), .d (.int .i64 y7_2_12), .d (.int .i64 y7_2_13), .d (.str y7_2_14)]]⟩ (raddleref04_Same_qb2_1_0x11010011 r) := by
  intro k
  induction k with
  | zero =>
    intro x0 x1 x5_2_2 x8_2_15 x35_2_16 x37_2_17 x38_2_18 x42_2_19 x44_2_20 x45_2_21 x49_2_22 x51_2_23 x52_2_24 x56_2_25 x58_2_26 x59_2_27 x63_2_28 x64_2_29 x66_2_30 x67_2_31 x68_2_32 y6_2_3 y6_2_4 y6_2_5 y6_2_6 y6_2_7 y6_2_8 y7_2_9 y7_2_10 y7_2_11 y7_2_12 y7_2_13 y7_2_14 flx0 flx1 b6_2 b7_2 h
    cases (show (none : Option Bool) = some r from h)
  | succ k ih =>
    intro x0 x1 x5_2_2 x8_2_15 x35_2_16 x37_2_17 x38_2_18 x42_2_19 x44_2_20 x45_2_21 x49_2_22 x51_2_23 x52_2_24 x56_2_25 x58_2_26 x59_2_27 x63_2_28 x64_2_29 x66_2_30 x67_2_31 x68_2_32 y6_2_3 y6_2_4 y6_2_5 y6_2_6 y6_2_7 y6_2_8 y7_2_9 y7_2_10 y7_2_11 y7_2_12 y7_2_13 y7_2_14 flx0 flx1 b6_2 b7_2 h
    rw [raddleref04_Same_l2] at h
    refine TL.round ?_
    refine T.seq ?_
    refine T.seq ?_
    refine T.regionL ?_
    refine mv rfl rfl rfl rfl rfl ?_
    refine sp rfl (OpT.fieldPtr rfl (dl rfl rfl) Try.underlying36 rfl i34 (by decide) rfl ?_)
    refine sp rfl (OpT.loadBox (i := 0) rfl (dl rfl rfl) Try.underlying34 rfl rfl rfl rfl ?_)
    refine sp rfl (OpT.lenSlM (xs := y6_2_5) (f := (cI .i64)) rfl (dl rfl rfl) Try.underlying34 rfl ?_)
    refine sp rfl (OpT.int2 rfl rfl (dl rfl rfl) rfl rfl ?_)
    refine TL'.nil (thenS_normal ?_)
    rcases bif_some h with ⟨c_390, h⟩ | ⟨c_390, h⟩
    · refine T.condT rfl c_390 ?_
      refine T.skip (thenS_normal ?_)
      refine T.seq ?_
      refine T.block ?_
      refine T.seq ?_
      refine DG.start ?_
      refine DG.step (c := ⟨some 77, .ptr b6_2 (0 + 5), [(6, .ptr b6_2 0)], [], []⟩) (fun t hm => One.step rfl (.free rfl) (OpT.fieldPtr rfl (dl rfl rfl) Try.underlying36 rfl i34 (by decide) hm.s0 rfl)) (Ct.met_of rfl rfl) ?_
      refine DG.step (c := ⟨some 78, .sl false 1 (y6_2_5.map (cI .i64)), [(77, .ptr b6_2 (0 + 5))], [(0, .box b6_2 36 [.d (.int .u8 y6_2_3), .d (.int .u64 y6_2_4.a0), .d (.int .u64 y6_2_4.a1), .d (.int .u64 y6_2_4.a2), .d (.int .u64 y6_2_4.a3), .d (.sl false 1 (y6_2_5.map (cI .i64))), .d (.int .i64 y6_2_6), .d (.int .i64 y6_2_7), .d (.str y6_2_8)])], []⟩) (fun t hm => One.step rfl (.free rfl) (OpT.loadBox (i := 0) rfl (dl rfl rfl) Try.underlying34 rfl hm.s0 hm.o0 rfl rfl)) (Ct.met_of rfl rfl) ?_
      refine DG.mv rfl rfl rfl rfl rfl rfl ?_
      obtain ⟨v_396, e_397, h⟩ := bind_some h
      refine DG.step (c := ⟨some 80, .ref [.int .i64 v_396], [(78, .sl false 1 (y6_2_5.map (cI .i64))), (79, .int .i64 x8_2_15)], [], []⟩) (fun t hm => One.step rfl (.free rfl) (OpT.indexSlM (xs := y6_2_5) (f := (cI .i64)) (v := v_396) rfl (dl rfl rfl) Try.underlying34 i3 hm.s0 hm.s1 e_397 rfl)) (Ct.met_of rfl rfl) ?_
      refine DG.step (c := ⟨some 81, .int .i64 v_396, [(80, .ref [.int .i64 v_396])], [], []⟩) (fun t hm => One.step rfl (.free rfl) (OpT.loadRef rfl (dl rfl rfl) Try.underlying3 rfl hm.s0 rfl rfl)) (Ct.met_of rfl rfl) ?_
      refine DG.step (c := ⟨some 82, .ptr b7_2 (0 + 5), [(7, .ptr b7_2 0)], [], []⟩) (fun t hm => One.step rfl (.free rfl) (OpT.fieldPtr rfl (dl rfl rfl) Try.underlying36 rfl i34 (by decide) hm.s0 rfl)) (Ct.met_of rfl rfl) ?_
      refine DG.step (c := ⟨some 83, .sl false 1 (y7_2_11.map (cI .i64)), [(82, .ptr b7_2 (0 + 5))], [(1, .box b7_2 36 [.d (.int .u8 y7_2_9), .d (.int .u64 y7_2_10.a0), .d (.int .u64 y7_2_10.a1), .d (.int .u64 y7_2_10.a2), .d (.int .u64 y7_2_10.a3), .d (.sl false 1 (y7_2_11.map (cI .i64))), .d (.int .i64 y7_2_12), .d (.int .i64 y7_2_13), .d (.str y7_2_14)])], []⟩) (fun t hm => One.step rfl (.free rfl) (OpT.loadBox (i := 1) rfl (dl rfl rfl) Try.underlying34 rfl hm.s0 hm.o0 rfl rfl)) (Ct.met_of rfl rfl) ?_
      refine DG.mv rfl rfl rfl rfl rfl rfl ?_
      obtain ⟨v_398, e_399, h⟩ := bind_some h
      refine DG.step (c := ⟨some 85, .ref [.int .i64 v_398], [(83, .sl false 1 (y7_2_11.map (cI .i64))), (84, .int .i64 x8_2_15)], [], []⟩) (fun t hm => One.step rfl (.free rfl) (OpT.indexSlM (xs := y7_2_11) (f := (cI .i64)) (v := v_398) rfl (dl rfl rfl) Try.underlying34 i3 hm.s0 hm.s1 e_399 rfl)) (Ct.met_of rfl rfl) ?_
      refine DG.step (c := ⟨some 86, .int .i64 v_398, [(85, .ref [.int .i64 v_398])], [], []⟩) (fun t hm => One.step rfl (.free rfl) (OpT.loadRef rfl (dl rfl rfl) Try.underlying3 rfl hm.s0 rfl rfl)) (Ct.met_of rfl rfl) ?_
      refine DG.step (c := ⟨some 87, .bool (v_396 != v_398), [(81, .int .i64 v_396), (86, .int .i64 v_398)], [], []⟩) (fun t hm => One.step rfl (.free rfl) (OpT.int2 rfl rfl (dl rfl rfl) hm.s0 hm.s1 rfl)) (Ct.met_of rfl rfl) ?_
      refine DG.fin (s1 := ⟨[(0, .sl flx0 9 (x0.map c_api_Node)), (1, .sl flx1 9 (x1.map c_api_Node)), (5, .int .i64 x5_2_2), (6, .ptr b6_2 0), (7, .ptr b7_2 0), (8, .int .i64 x8_2_15), (34, .ptr b6_2 (0 + 1)), (35, .agg (Arr4.dc .u64 x35_2_16)), (36, .ptr b7_2 (0 + 1)), (37, .agg (Arr4.dc .u64 x37_2_17)), (38, .bool x38_2_18), (41, .ptr b6_2 (0 + 6)), (42, .int .i64 x42_2_19), (43, .ptr b7_2 (0 + 6)), (44, .int .i64 x44_2_20), (45, .bool x45_2_21), (48, .ptr b6_2 (0 + 7)), (49, .int .i64 x49_2_22), (50, .ptr b7_2 (0 + 7)), (51, .int .i64 x51_2_23), (52, .bool x52_2_24), (55, .ptr b6_2 (0 + 8)), (56, .str x56_2_25), (57, .ptr b7_2 (0 + 8)), (58, .str x58_2_26), (59, .bool x59_2_27), (62, .ptr b6_2 (0 + 5)), (63, .sl false 1 (x63_2_28.map (cI .i64))), (64, .int .i64 x64_2_29), (65, .ptr b7_2 (0 + 5)), (66, .sl false 1 (x66_2_30.map (cI .i64))), (67, .int .i64 x67_2_31), (68, .bool x68_2_32), (87, .bool (v_396 != v_398))], [.box b6_2 36 [.d (.int .u8 y6_2_3), .d (.int .u64 y6_2_4.a0), .d (.int .u64 y6_2_4.a1), .d (.int .u64 y6_2_4.a2), .d (.int .u64 y6_2_4.a3), .d (.sl false 1 (y6_2_5.map (cI .i64))), .d (.int .i64 y6_2_6), .d (.int .i64 y6_2_7), .d (.str y6_2_8)], .box b7_2 36 [.d (.int .u8 y7_2_9), .d (.int .u64 y7_2_10.a0), .d (.int .u64 y7_2_10.a1), .d (.int .u64 y7_2_10.a2), .d (.int .u64 y7_2_10.a3), .d (.sl false 1 (y7_2_11.map (cI .i64))), .d (.int .i64 y7_2_12), .d (.int .i64 y7_2_13), .d (.str y7_2_14)]]⟩) (ms := [0, 1, 0, 7, 15, 0, 32, 0, 224, 480, 1023]) TryMixed rfl (by kernel_rfl) (by kernel_rfl) (by kernel_rfl) (.cons rfl (.cons rfl (.cons rfl (.cons rfl (.cons rfl (.cons rfl (.cons rfl (.cons rfl (.cons rfl (.cons rfl (.cons rfl (.cons rfl (.cons rfl (.cons rfl (.cons rfl (.cons rfl (.cons rfl (.cons rfl (.cons rfl (.cons rfl (.cons rfl (.cons rfl (.cons rfl (.cons rfl (.cons rfl (.cons rfl (.cons rfl (.cons rfl (.cons rfl (.cons rfl (.cons rfl (.cons rfl (.cons rfl (.cons rfl (.nil _))))))))))))))))))))))))))))))))))) rfl (fun u hu => (thenS_normal (T.by_turn hu ?_)))
      rcases bif_some h with ⟨c_400, h⟩ | ⟨c_400, h⟩
      · refine T.condT rfl c_400 ?_
        refine T.seq ?_
        refine T.regionL ?_
        refine asg rfl rfl rfl rfl rfl ?_
        refine TL'.nil (thenS_normal ?_)
        refine T.ret (inBlock_ret (thenS_ret (thenS_ret (inBlock_ret (inBlock_ret (thenS_ret (thenS_ret (inBlock_ret (thenS_ret ?_)))))))))
        exact Fin.done (.cons _ _ _ _ (.tmp 4 _ rfl) .nil) (by cases h; exact ⟨rfl, rfl⟩)
      · refine T.condF rfl c_400 ?_
        refine T.skip (inBlock_normal (thenS_normal ?_))
        refine T.regionL ?_
        refine mv rfl rfl rfl rfl rfl ?_
        refine sp rfl (OpT.int2 rfl rfl (dl rfl rfl) rfl rfl ?_)
        refine asg rfl rfl rfl rfl rfl ?_
        refine TL'.nil (thenS_normal ?_)
        refine TL.by_turn ?_ (ih x0 x1 x5_2_2 (IntKind.i64.wrap (x8_2_15 + (1 : Int))) x35_2_16 x37_2_17 x38_2_18 x42_2_19 x44_2_20 x45_2_21 x49_2_22 x51_2_23 x52_2_24 x56_2_25 x58_2_26 x59_2_27 x63_2_28 x64_2_29 x66_2_30 x67_2_31 x68_2_32 y6_2_3 y6_2_4 y6_2_5 y6_2_6 y6_2_7 y6_2_8 y7_2_9 y7_2_10 y7_2_11 y7_2_12 y7_2_13 y7_2_14 flx0 flx1 b6_2 b7_2 h)
        exact Turn.rp (.cons rfl (.cons rfl (.cons rfl (.cons rfl (.cons rfl (.cons rfl (.cons rfl (.cons rfl (.cons rfl (.cons rfl (.cons rfl (.cons rfl (.cons rfl (.cons rfl (.cons rfl (.cons rfl (.cons rfl (.cons rfl (.cons rfl (.cons rfl (.cons rfl (.cons rfl (.cons rfl (.cons rfl (.cons rfl (.cons rfl (.cons rfl (.cons rfl (.cons rfl (.cons rfl (.cons rfl (.cons rfl (.cons rfl (.nil _)))))))))))))))))))))))))))))))))) (.c .z (.c .z (.n _)))
    · refine T.condF rfl c_390 ?_
      refine T.exit (thenS_exit (thenS_exit (inBlock_exit (inBlock_normal (thenS_normal ?_)))))
      refine T.regionL ?_
      refine mv rfl rfl rfl rfl rfl ?_
      refine sp rfl (OpT.int2 rfl rfl (dl rfl rfl) rfl rfl ?_)
      refine asg rfl rfl rfl rfl rfl ?_
      refine TL'.nil (thenS_normal ?_)
      refine TL.by_turn ?_ (hgo0 x0 x1 (IntKind.i64.wrap (x5_2_2 + (1 : Int))) flx0 flx1 h)
      exact Turn.rp (.cons rfl (.cons rfl (.cons rfl (.nil _)))) (.n _)

theorem raddleref04_Same_l0_T {r : Bool} (K : Nat) : ∀ (k : Nat), ∀ (x0 : List api_Node) (x1 : List api_Node) (x5_0_2 : Int) (flx0 : Bool) (flx1 : Bool), raddleref04_Same_l0 K k x0 x1 x5_0_2 = some r → TL Try.prog 88 (Code.at [1, 1, 0, 1, 0, 0] (codeOf Try.f11)) ⟨[(0, .sl flx0 9 (x0.map c_api_Node)), (1, .sl flx1 9 (x1.map c_api_Node)), (5, .int .i64 x5_0_2)], []⟩ (raddleref04_Same_qb0x111 r) := by
  intro k
  induction k with
  | zero =>
    intro x0 x1 x5_0_2 flx0 flx1 h
    cases (show (none : Option Bool) = some r from h)
  | succ k ih =>
    intro x0 x1 x5_0_2 flx0 flx1 h
    rw [raddleref04_Same_l0] at h
    refine TL.round ?_
    refine T.seq ?_
    refine T.seq ?_
    refine T.regionL ?_
    refine mv rfl rfl rfl rfl rfl ?_
    refine mv rfl rfl rfl rfl rfl ?_
    refine sp rfl (OpT.lenSlM (xs := x0) (f := c_api_Node) rfl (dl rfl rfl) Try.underlying23 rfl ?_)
    refine sp rfl (OpT.int2 rfl rfl (dl rfl rfl) rfl rfl ?_)
    refine TL'.nil (thenS_normal ?_)
    rcases bif_some h with ⟨c_377, h⟩ | ⟨c_377, h⟩
    · refine T.condT rfl c_377 ?_
      refine T.skip (thenS_normal ?_)
      refine T.seq ?_
      refine T.block ?_
      refine T.seq ?_
      refine T.regionL ?_
      refine mv rfl rfl rfl rfl rfl ?_
      refine mv rfl rfl rfl rfl rfl ?_
      obtain ⟨v_378, e_379, h⟩ := bind_some h
      refine sp rfl (OpT.indexSlM (xs := x0) (f := c_api_Node) (v := v_378) rfl (dl rfl rfl) Try.underlying23 i36 rfl rfl e_379 ?_)
      refine sp rfl (OpT.loadRefAgg rfl (dl rfl rfl) Try.underlying36 rfl i36 rfl (Nat.le_of_ble_eq_true rfl) ?_)
      refine sp rfl (OpT.alloc' rfl (dl rfl rfl) i36 rfl (fun b_380 => ?_))
      refine sp rfl (OpT.storeAggTo (i := 0) (cells' := [.d (.int .u8 v_378.Op), .d (.int .u64 v_378.S.a0), .d (.int .u64 v_378.S.a1), .d (.int .u64 v_378.S.a2), .d (.int .u64 v_378.S.a3), .d (.sl false 1 (v_378.L.map (cI .i64))), .d (.int .i64 v_378.Lo), .d (.int .i64 v_378.Hi), .d (.str v_378.Name)]) rfl rfl i36 rfl rfl rfl rfl (Nat.le_of_ble_eq_true rfl) rfl ?_)
      refine TL'.nil (thenS_normal ?_)
      refine T.seq ?_
      refine T.regionL ?_
      refine mv rfl rfl rfl rfl rfl ?_
      refine mv rfl rfl rfl rfl rfl ?_
      obtain ⟨v_381, e_382, h⟩ := bind_some h
      refine sp rfl (OpT.indexSlM (xs := x1) (f := c_api_Node) (v := v_381) rfl (dl rfl rfl) Try.underlying23 i36 rfl rfl e_382 ?_)
      refine sp rfl (OpT.loadRefAgg rfl (dl rfl rfl) Try.underlying36 rfl i36 rfl (Nat.le_of_ble_eq_true rfl) ?_)
      refine sp rfl (OpT.alloc' rfl (dl rfl rfl) i36 rfl (fun b_383 => ?_))
      refine sp rfl (OpT.storeAggTo (i := 0) (cells' := [.d (.int .u8 v_381.Op), .d (.int .u64 v_381.S.a0), .d (.int .u64 v_381.S.a1), .d (.int .u64 v_381.S.a2), .d (.int .u64 v_381.S.a3), .d (.sl false 1 (v_381.L.map (cI .i64))), .d (.int .i64 v_381.Lo), .d (.int .i64 v_381.Hi), .d (.str v_381.Name)]) rfl rfl i36 rfl rfl rfl rfl (Nat.le_of_ble_eq_true rfl) rfl ?_)
      refine TL'.nil (thenS_normal ?_)
      refine T.seq ?_
      refine T.seq ?_
      refine T.regionL ?_
      refine sp rfl (OpT.fieldPtr rfl (dl rfl rfl) Try.underlying36 rfl i5 (by decide) rfl ?_)
      refine sp rfl (OpT.loadBox (i := 1) rfl (dl rfl rfl) Try.underlying5 rfl rfl rfl rfl ?_)
      refine sp rfl (OpT.fieldPtr rfl (dl rfl rfl) Try.underlying36 rfl i5 (by decide) rfl ?_)
      refine sp rfl (OpT.loadBox (i := 0) rfl (dl rfl rfl) Try.underlying5 rfl rfl rfl rfl ?_)
      refine sp rfl (OpT.int2 rfl rfl (dl rfl rfl) rfl rfl ?_)
      refine mv rfl rfl rfl rfl rfl ?_
      rcases bif_some h with ⟨c_384, h⟩ | ⟨c_384, h⟩
      · refine TL'.passU (.off _ _ _ _ rfl rfl rfl c_384) (dl rfl rfl) ?_
        refine TL'.passU (.off _ _ _ _ rfl rfl rfl c_384) (dl rfl rfl) ?_
        refine TL'.passU (.off _ _ _ _ rfl rfl rfl c_384) (dl rfl rfl) ?_
        refine TL'.passU (.off _ _ _ _ rfl rfl rfl c_384) (dl rfl rfl) ?_
        refine TL'.passU (.off _ _ _ _ rfl rfl rfl c_384) (dl rfl rfl) ?_
        refine sp rfl (OpT.pickT rfl (dl rfl rfl) rfl c_384 rfl ?_)
        refine mv rfl rfl rfl rfl rfl ?_
        refine TL'.passU (.off _ _ _ _ rfl rfl rfl rfl) (dl rfl rfl) ?_
        refine TL'.passU (.off _ _ _ _ rfl rfl rfl rfl) (dl rfl rfl) ?_
        refine TL'.passU (.off _ _ _ _ rfl rfl rfl rfl) (dl rfl rfl) ?_
        refine TL'.passU (.off _ _ _ _ rfl rfl rfl rfl) (dl rfl rfl) ?_
        refine TL'.passU (.off _ _ _ _ rfl rfl rfl rfl) (dl rfl rfl) ?_
        refine sp rfl (OpT.pickT rfl (dl rfl rfl) rfl rfl rfl ?_)
        refine mv rfl rfl rfl rfl rfl ?_
        refine TL'.passU (.off _ _ _ _ rfl rfl rfl rfl) (dl rfl rfl) ?_
        refine TL'.passU (.off _ _ _ _ rfl rfl rfl rfl) (dl rfl rfl) ?_
        refine TL'.passU (.off _ _ _ _ rfl rfl rfl rfl) (dl rfl rfl) ?_
        refine TL'.passU (.off _ _ _ _ rfl rfl rfl rfl) (dl rfl rfl) ?_
        refine TL'.passU (.off _ _ _ _ rfl rfl rfl rfl) (dl rfl rfl) ?_
        refine sp rfl (OpT.pickT rfl (dl rfl rfl) rfl rfl rfl ?_)
        refine mv rfl rfl rfl rfl rfl ?_
        refine TL'.passU (.off _ _ _ _ rfl rfl rfl rfl) (dl rfl rfl) ?_
        refine TL'.passU (.off _ _ _ _ rfl rfl rfl rfl) (dl rfl rfl) ?_
        refine TL'.passU (.off _ _ _ _ rfl rfl rfl rfl) (dl rfl rfl) ?_
        refine TL'.passU (.off _ _ _ _ rfl rfl rfl rfl) (dl rfl rfl) ?_
        refine TL'.passU (.off _ _ _ _ rfl rfl rfl rfl) (dl rfl rfl) ?_
        refine sp rfl (OpT.pickT rfl (dl rfl rfl) rfl rfl rfl ?_)
        refine mv rfl rfl rfl rfl rfl ?_
        refine TL'.passU (.off _ _ _ _ rfl rfl rfl rfl) (dl rfl rfl) ?_
        refine TL'.passU (.off _ _ _ _ rfl rfl rfl rfl) (dl rfl rfl) ?_
        refine TL'.passU (.off _ _ _ _ rfl rfl rfl rfl) (dl rfl rfl) ?_
        refine TL'.passU (.off _ _ _ _ rfl rfl rfl rfl) (dl rfl rfl) ?_
        refine TL'.passU (.off _ _ _ _ rfl rfl rfl rfl) (dl rfl rfl) ?_
        refine TL'.passU (.off _ _ _ _ rfl rfl rfl rfl) (dl rfl rfl) ?_
        refine TL'.passU (.off _ _ _ _ rfl rfl rfl rfl) (dl rfl rfl) ?_
        refine sp rfl (OpT.pickT rfl (dl rfl rfl) rfl rfl rfl ?_)
        refine TL'.nil (thenS_normal ?_)
        refine T.condT rfl rfl ?_
        refine T.by_turn ?_ (raddleref04_Same_j1_T K h)
        exact Turn.rp (.nil _) (.n _)
      · refine TL'.step (.on rfl rfl rfl c_384) (OpT.fieldPtr rfl (dl rfl rfl) Try.underlying36 rfl i33 (by decide) rfl ?_)
        refine TL'.step (.on rfl rfl rfl c_384) (OpT.loadBoxAgg (i := 1) (l := (Arr4.dc .u64 v_378.S)) rfl (dl rfl rfl) Try.underlying33 rfl i33 rfl rfl rfl rfl ?_)
        refine TL'.step (.on rfl rfl rfl c_384) (OpT.fieldPtr rfl (dl rfl rfl) Try.underlying36 rfl i33 (by decide) rfl ?_)
        refine TL'.step (.on rfl rfl rfl c_384) (OpT.loadBoxAgg (i := 0) (l := (Arr4.dc .u64 v_381.S)) rfl (dl rfl rfl) Try.underlying33 rfl i33 rfl rfl rfl rfl ?_)
        refine TL'.step (.on rfl rfl rfl c_384) (OpT.intsNeq (k := .u64) (xs := [v_378.S.a0, v_378.S.a1, v_378.S.a2, v_378.S.a3]) (ys := [v_381.S.a0, v_381.S.a1, v_381.S.a2, v_381.S.a3]) rfl (dl rfl rfl) Try.underlying33 Try.underlying31 i31 Try.eqGuardType33 rfl rfl rfl rfl rfl rfl (Arr4.same_eq v_378.S v_381.S) ?_)
        refine sp rfl (OpT.pickF rfl (dl rfl rfl) rfl c_384 rfl ?_)
        refine mv rfl rfl rfl rfl rfl ?_
        rcases bif_some h with ⟨c_385, h⟩ | ⟨c_385, h⟩
        · refine TL'.passU (.off _ _ _ _ rfl rfl rfl c_385) (dl rfl rfl) ?_
          refine TL'.passU (.off _ _ _ _ rfl rfl rfl c_385) (dl rfl rfl) ?_
          refine TL'.passU (.off _ _ _ _ rfl rfl rfl c_385) (dl rfl rfl) ?_
          refine TL'.passU (.off _ _ _ _ rfl rfl rfl c_385) (dl rfl rfl) ?_
          refine TL'.passU (.off _ _ _ _ rfl rfl rfl c_385) (dl rfl rfl) ?_
          refine sp rfl (OpT.pickT rfl (dl rfl rfl) rfl c_385 rfl ?_)
          refine mv rfl rfl rfl rfl rfl ?_
          refine TL'.passU (.off _ _ _ _ rfl rfl rfl rfl) (dl rfl rfl) ?_
          refine TL'.passU (.off _ _ _ _ rfl rfl rfl rfl) (dl rfl rfl) ?_
          refine TL'.passU (.off _ _ _ _ rfl rfl rfl rfl) (dl rfl rfl) ?_
          refine TL'.passU (.off _ _ _ _ rfl rfl rfl rfl) (dl rfl rfl) ?_
          refine TL'.passU (.off _ _ _ _ rfl rfl rfl rfl) (dl rfl rfl) ?_
          refine sp rfl (OpT.pickT rfl (dl rfl rfl) rfl rfl rfl ?_)
          refine mv rfl rfl rfl rfl rfl ?_
          refine TL'.passU (.off _ _ _ _ rfl rfl rfl rfl) (dl rfl rfl) ?_
          refine TL'.passU (.off _ _ _ _ rfl rfl rfl rfl) (dl rfl rfl) ?_
          refine TL'.passU (.off _ _ _ _ rfl rfl rfl rfl) (dl rfl rfl) ?_
          refine TL'.passU (.off _ _ _ _ rfl rfl rfl rfl) (dl rfl rfl) ?_
          refine TL'.passU (.off _ _ _ _ rfl rfl rfl rfl) (dl rfl rfl) ?_
          refine sp rfl (OpT.pickT rfl (dl rfl rfl) rfl rfl rfl ?_)
          refine mv rfl rfl rfl rfl rfl ?_
          refine TL'.passU (.off _ _ _ _ rfl rfl rfl rfl) (dl rfl rfl) ?_
          refine TL'.passU (.off _ _ _ _ rfl rfl rfl rfl) (dl rfl rfl) ?_
          refine TL'.passU (.off _ _ _ _ rfl rfl rfl rfl) (dl rfl rfl) ?_
          refine TL'.passU (.off _ _ _ _ rfl rfl rfl rfl) (dl rfl rfl) ?_
          refine TL'.passU (.off _ _ _ _ rfl rfl rfl rfl) (dl rfl rfl) ?_
          refine TL'.passU (.off _ _ _ _ rfl rfl rfl rfl) (dl rfl rfl) ?_
          refine TL'.passU (.off _ _ _ _ rfl rfl rfl rfl) (dl rfl rfl) ?_
          refine sp rfl (OpT.pickT rfl (dl rfl rfl) rfl rfl rfl ?_)
          refine TL'.nil (thenS_normal ?_)
          refine T.condT rfl rfl ?_
          refine T.by_turn ?_ (raddleref04_Same_j1_T K h)
          exact Turn.rp (.nil _) (.n _)
        · refine TL'.step (.on rfl rfl rfl c_385) (OpT.fieldPtr rfl (dl rfl rfl) Try.underlying36 rfl i3 (by decide) rfl ?_)
          refine TL'.step (.on rfl rfl rfl c_385) (OpT.loadBox (i := 1) rfl (dl rfl rfl) Try.underlying3 rfl rfl rfl rfl ?_)
          refine TL'.step (.on rfl rfl rfl c_385) (OpT.fieldPtr rfl (dl rfl rfl) Try.underlying36 rfl i3 (by decide) rfl ?_)
          refine TL'.step (.on rfl rfl rfl c_385) (OpT.loadBox (i := 0) rfl (dl rfl rfl) Try.underlying3 rfl rfl rfl rfl ?_)
          refine TL'.step (.on rfl rfl rfl c_385) (OpT.int2 rfl rfl (dl rfl rfl) rfl rfl ?_)
          refine sp rfl (OpT.pickF rfl (dl rfl rfl) rfl c_385 rfl ?_)
          refine mv rfl rfl rfl rfl rfl ?_
          rcases bif_some h with ⟨c_386, h⟩ | ⟨c_386, h⟩
          · refine TL'.passU (.off _ _ _ _ rfl rfl rfl c_386) (dl rfl rfl) ?_
            refine TL'.passU (.off _ _ _ _ rfl rfl rfl c_386) (dl rfl rfl) ?_
            refine TL'.passU (.off _ _ _ _ rfl rfl rfl c_386) (dl rfl rfl) ?_
            refine TL'.passU (.off _ _ _ _ rfl rfl rfl c_386) (dl rfl rfl) ?_
            refine TL'.passU (.off _ _ _ _ rfl rfl rfl c_386) (dl rfl rfl) ?_
            refine sp rfl (OpT.pickT rfl (dl rfl rfl) rfl c_386 rfl ?_)
            refine mv rfl rfl rfl rfl rfl ?_
            refine TL'.passU (.off _ _ _ _ rfl rfl rfl rfl) (dl rfl rfl) ?_
            refine TL'.passU (.off _ _ _ _ rfl rfl rfl rfl) (dl rfl rfl) ?_
            refine TL'.passU (.off _ _ _ _ rfl rfl rfl rfl) (dl rfl rfl) ?_
            refine TL'.passU (.off _ _ _ _ rfl rfl rfl rfl) (dl rfl rfl) ?_
            refine TL'.passU (.off _ _ _ _ rfl rfl rfl rfl) (dl rfl rfl) ?_
            refine sp rfl (OpT.pickT rfl (dl rfl rfl) rfl rfl rfl ?_)
            refine mv rfl rfl rfl rfl rfl ?_
            refine TL'.passU (.off _ _ _ _ rfl rfl rfl rfl) (dl rfl rfl) ?_
            refine TL'.passU (.off _ _ _ _ rfl rfl rfl rfl) (dl rfl rfl) ?_
            refine TL'.passU (.off _ _ _ _ rfl rfl rfl rfl) (dl rfl rfl) ?_
            refine TL'.passU (.off _ _ _ _ rfl rfl rfl rfl) (dl rfl rfl) ?_
            refine TL'.passU (.off _ _ _ _ rfl rfl rfl rfl) (dl rfl rfl) ?_
            refine TL'.passU (.off _ _ _ _ rfl rfl rfl rfl) (dl rfl rfl) ?_
            refine TL'.passU (.off _ _ _ _ rfl rfl rfl rfl) (dl rfl rfl) ?_
            refine sp rfl (OpT.pickT rfl (dl rfl rfl) rfl rfl rfl ?_)
            refine TL'.nil (thenS_normal ?_)
            refine T.condT rfl rfl ?_
            refine T.by_turn ?_ (raddleref04_Same_j1_T K h)
            exact Turn.rp (.nil _) (.n _)
          · refine TL'.step (.on rfl rfl rfl c_386) (OpT.fieldPtr rfl (dl rfl rfl) Try.underlying36 rfl i3 (by decide) rfl ?_)
            refine TL'.step (.on rfl rfl rfl c_386) (OpT.loadBox (i := 1) rfl (dl rfl rfl) Try.underlying3 rfl rfl rfl rfl ?_)
            refine TL'.step (.on rfl rfl rfl c_386) (OpT.fieldPtr rfl (dl rfl rfl) Try.underlying36 rfl i3 (by decide) rfl ?_)
            refine TL'.step (.on rfl rfl rfl c_386) (OpT.loadBox (i := 0) rfl (dl rfl rfl) Try.underlying3 rfl rfl rfl rfl ?_)
            refine TL'.step (.on rfl rfl rfl c_386) (OpT.int2 rfl rfl (dl rfl rfl) rfl rfl ?_)
            refine sp rfl (OpT.pickF rfl (dl rfl rfl) rfl c_386 rfl ?_)
            refine mv rfl rfl rfl rfl rfl ?_
            rcases bif_some h with ⟨c_387, h⟩ | ⟨c_387, h⟩
            · refine TL'.passU (.off _ _ _ _ rfl rfl rfl c_387) (dl rfl rfl) ?_
              refine TL'.passU (.off _ _ _ _ rfl rfl rfl c_387) (dl rfl rfl) ?_
              refine TL'.passU (.off _ _ _ _ rfl rfl rfl c_387) (dl rfl rfl) ?_
              refine TL'.passU (.off _ _ _ _ rfl rfl rfl c_387) (dl rfl rfl) ?_
              refine TL'.passU (.off _ _ _ _ rfl rfl rfl c_387) (dl rfl rfl) ?_
              refine sp rfl (OpT.pickT rfl (dl rfl rfl) rfl c_387 rfl ?_)
              refine mv rfl rfl rfl rfl rfl ?_
              refine TL'.passU (.off _ _ _ _ rfl rfl rfl rfl) (dl rfl rfl) ?_
              refine TL'.passU (.off _ _ _ _ rfl rfl rfl rfl) (dl rfl rfl) ?_
              refine TL'.passU (.off _ _ _ _ rfl rfl rfl rfl) (dl rfl rfl) ?_
              refine TL'.passU (.off _ _ _ _ rfl rfl rfl rfl) (dl rfl rfl) ?_
              refine TL'.passU (.off _ _ _ _ rfl rfl rfl rfl) (dl rfl rfl) ?_
              refine TL'.passU (.off _ _ _ _ rfl rfl rfl rfl) (dl rfl rfl) ?_
              refine TL'.passU (.off _ _ _ _ rfl rfl rfl rfl) (dl rfl rfl) ?_
              refine sp rfl (OpT.pickT rfl (dl rfl rfl) rfl rfl rfl ?_)
              refine TL'.nil (thenS_normal ?_)
              refine T.condT rfl rfl ?_
              refine T.by_turn ?_ (raddleref04_Same_j1_T K h)
              exact Turn.rp (.nil _) (.n _)
            · refine TL'.step (.on rfl rfl rfl c_387) (OpT.fieldPtr rfl (dl rfl rfl) Try.underlying36 rfl i9 (by decide) rfl ?_)
              refine TL'.step (.on rfl rfl rfl c_387) (OpT.loadBox (i := 1) rfl (dl rfl rfl) Try.underlying9 rfl rfl rfl rfl ?_)
              refine TL'.step (.on rfl rfl rfl c_387) (OpT.fieldPtr rfl (dl rfl rfl) Try.underlying36 rfl i9 (by decide) rfl ?_)
              refine TL'.step (.on rfl rfl rfl c_387) (OpT.loadBox (i := 0) rfl (dl rfl rfl) Try.underlying9 rfl rfl rfl rfl ?_)
              refine TL'.step (.on rfl rfl rfl c_387) (OpT.str_neq rfl (dl rfl rfl) rfl rfl ?_)
              refine sp rfl (OpT.pickF rfl (dl rfl rfl) rfl c_387 rfl ?_)
              refine mv rfl rfl rfl rfl rfl ?_
              rcases bif_some h with ⟨c_388, h⟩ | ⟨c_388, h⟩
              · refine TL'.passU (.off _ _ _ _ rfl rfl rfl c_388) (dl rfl rfl) ?_
                refine TL'.passU (.off _ _ _ _ rfl rfl rfl c_388) (dl rfl rfl) ?_
                refine TL'.passU (.off _ _ _ _ rfl rfl rfl c_388) (dl rfl rfl) ?_
                refine TL'.passU (.off _ _ _ _ rfl rfl rfl c_388) (dl rfl rfl) ?_
                refine TL'.passU (.off _ _ _ _ rfl rfl rfl c_388) (dl rfl rfl) ?_
                refine TL'.passU (.off _ _ _ _ rfl rfl rfl c_388) (dl rfl rfl) ?_
                refine TL'.passU (.off _ _ _ _ rfl rfl rfl c_388) (dl rfl rfl) ?_
                refine sp rfl (OpT.pickT rfl (dl rfl rfl) rfl c_388 rfl ?_)
                refine TL'.nil (thenS_normal ?_)
                refine T.condT rfl rfl ?_
                refine T.by_turn ?_ (raddleref04_Same_j1_T K h)
                exact Turn.rp (.nil _) (.n _)
              · refine TL'.step (.on rfl rfl rfl c_388) (OpT.fieldPtr rfl (dl rfl rfl) Try.underlying36 rfl i34 (by decide) rfl ?_)
                refine TL'.step (.on rfl rfl rfl c_388) (OpT.loadBox (i := 1) rfl (dl rfl rfl) Try.underlying34 rfl rfl rfl rfl ?_)
                refine TL'.step (.on rfl rfl rfl c_388) (OpT.lenSlM (xs := v_378.L) (f := (cI .i64)) rfl (dl rfl rfl) Try.underlying34 rfl ?_)
                refine TL'.step (.on rfl rfl rfl c_388) (OpT.fieldPtr rfl (dl rfl rfl) Try.underlying36 rfl i34 (by decide) rfl ?_)
                refine TL'.step (.on rfl rfl rfl c_388) (OpT.loadBox (i := 0) rfl (dl rfl rfl) Try.underlying34 rfl rfl rfl rfl ?_)
                refine TL'.step (.on rfl rfl rfl c_388) (OpT.lenSlM (xs := v_381.L) (f := (cI .i64)) rfl (dl rfl rfl) Try.underlying34 rfl ?_)
                refine TL'.step (.on rfl rfl rfl c_388) (OpT.int2 rfl rfl (dl rfl rfl) rfl rfl ?_)
                refine sp rfl (OpT.pickF rfl (dl rfl rfl) rfl c_388 rfl ?_)
                refine TL'.nil (thenS_normal ?_)
                rcases bif_some h with ⟨c_389, h⟩ | ⟨c_389, h⟩
                · refine T.condT rfl c_389 ?_
                  refine T.by_turn ?_ (raddleref04_Same_j1_T K h)
                  exact Turn.rp (.nil _) (.n _)
                · refine T.condF rfl c_389 ?_
                  refine T.skip (thenS_normal ?_)
                  refine T.seq ?_
                  refine T.regionL ?_
                  refine asg rfl rfl rfl rfl rfl ?_
                  refine TL'.nil (thenS_normal ?_)
                  refine T.block ?_
                  refine T.loop ?_
                  refine TL.by_turn ?_ (raddleref04_Same_l2_T K (raddleref04_Same_l0 K k) ih K x0 x1 x5_0_2 (0 : Int) v_378.S v_381.S (!(Arr4.same v_378.S v_381.S)) v_378.Lo v_381.Lo (v_378.Lo != v_381.Lo) v_378.Hi v_381.Hi (v_378.Hi != v_381.Hi) v_378.Name v_381.Name (!(v_378.Name.toList == v_381.Name.toList)) v_378.L (v_378.L.length : Int) v_381.L (v_381.L.length : Int) ((v_378.L.length : Int) != (v_381.L.length : Int)) v_378.Op v_378.S v_378.L v_378.Lo v_378.Hi v_378.Name v_381.Op v_381.S v_381.L v_381.Lo v_381.Hi v_381.Name flx0 flx1 b_380 b_383 h)
                  exact Turn.rp (.cons rfl (.cons rfl (.cons rfl (.cons rfl (.cons rfl (.cons rfl (.cons rfl (.cons rfl (.cons rfl (.cons rfl (.cons rfl (.cons rfl (.cons rfl (.cons rfl (.cons rfl (.cons rfl (.cons rfl (.cons rfl (.cons rfl (.cons rfl (.cons rfl (.cons rfl (.cons rfl (.cons rfl (.cons rfl (.cons rfl (.cons rfl (.cons rfl (.cons rfl (.cons rfl (.cons rfl (.cons rfl (.cons rfl (.nil _)))))))))))))))))))))))))))))))))) (.c (.s .z) (.c .z (.n _)))
    · refine T.condF rfl c_377 ?_
      refine T.exit (thenS_exit (thenS_exit (inBlock_exit (thenS_normal ?_))))
      refine T.seq ?_
      refine T.regionL ?_
      refine asg rfl rfl rfl rfl rfl ?_
      refine TL'.nil (thenS_normal ?_)
      refine T.ret ?_
      exact Fin.done (.cons _ _ _ _ (.tmp 4 _ rfl) .nil) (by cases h; exact ⟨rfl, rfl⟩)

theorem raddleref04_Same_T (K : Nat) {x0 : List api_Node} {x1 : List api_Node} {flx0 : Bool} {flx1 : Bool} {r : Bool} (h : raddleref04_Same K x0 x1 = some r) : CallR Try.prog 11 [.sl flx0 9 (x0.map c_api_Node), .sl flx1 9 (x1.map c_api_Node)] [] (.bool r) := by
  refine CallT.intro Try.func11 rfl (Nat.le_of_ble_eq_true rfl) ?_
  show T Try.prog 88 (Code.at [] (codeOf Try.f11)) ⟨paramSlots 0 [.sl flx0 9 (x0.map c_api_Node), .sl flx1 9 (x1.map c_api_Node)], []⟩ (raddleref04_Same_q r)
  unfold raddleref04_Same at h
  refine T.seq ?_
  refine T.regionL ?_
  refine asg rfl rfl rfl rfl rfl ?_
  refine TL'.nil (thenS_normal ?_)
  refine T.seq ?_
  refine T.seq ?_
  refine T.regionL ?_
  refine mv rfl rfl rfl rfl rfl ?_
  refine sp rfl (OpT.lenSlM (xs := x0) (f := c_api_Node) rfl (dl rfl rfl) Try.underlying23 rfl ?_)
  refine mv rfl rfl rfl rfl rfl ?_
  refine sp rfl (OpT.lenSlM (xs := x1) (f := c_api_Node) rfl (dl rfl rfl) Try.underlying23 rfl ?_)
  refine sp rfl (OpT.int2 rfl rfl (dl rfl rfl) rfl rfl ?_)
  refine TL'.nil (thenS_normal ?_)
  rcases bif_some h with ⟨c_376, h⟩ | ⟨c_376, h⟩
  · refine T.condT rfl c_376 ?_
    refine T.seq ?_
    refine T.regionL ?_
    refine asg rfl rfl rfl rfl rfl ?_
    refine TL'.nil (thenS_normal ?_)
    refine T.ret (thenS_ret ?_)
    exact Fin.done (.cons _ _ _ _ (.tmp 4 _ rfl) .nil) (by cases h; exact ⟨rfl, rfl⟩)
  · refine T.condF rfl c_376 ?_
    refine T.skip (thenS_normal ?_)
    refine T.seq ?_
    refine T.seq ?_
    refine T.regionL ?_
    refine asg rfl rfl rfl rfl rfl ?_
    refine TL'.nil (thenS_normal ?_)
    refine T.block ?_
    refine T.loop ?_
    refine TL.by_turn ?_ (raddleref04_Same_l0_T K K x0 x1 (0 : Int) flx0 flx1 h)
    exact Turn.rp (.cons rfl (.cons rfl (.cons rfl (.nil _)))) (.n _)

abbrev raddlelaw04_shown_q (r : Bool) : Exit → St → Prop := retS Try.prog Try.f9 (fun y t => y = (.bool r) ∧ t = [])

theorem raddlelaw04_shown_T (K : Nat) {r : Bool} (h : raddlelaw04_shown K = some r) : CallR Try.prog 9 [] [] (.bool r) := by
  refine CallT.intro Try.func9 rfl (Nat.le_of_ble_eq_true rfl) ?_
  show T Try.prog 57 (Code.at [] (codeOf Try.f9)) ⟨paramSlots 0 [], []⟩ (raddlelaw04_shown_q r)
  unfold raddlelaw04_shown at h
  refine T.seq ?_
  refine T.regionL ?_
  refine asg rfl rfl rfl rfl rfl ?_
  refine TL'.nil (thenS_normal ?_)
  refine T.seq ?_
  refine T.regionL ?_
  obtain ⟨v_77, e_78, h⟩ := bind_some h
  refine sp rfl (OpT.callPA rfl (dl rfl rfl) Try.func10 rfl rfl (Args.cons rfl Args.nil) (CallR.nil (syntax_Parse_T K e_78)) ?_)
  refine mv rfl rfl rfl rfl rfl ?_
  refine sp rfl (OpT.extract rfl (dl rfl rfl) rfl rfl ?_)
  refine sp rfl (OpT.extract rfl (dl rfl rfl) rfl rfl ?_)
  refine sp rfl (OpT.extract rfl (dl rfl rfl) rfl rfl ?_)
  refine asg rfl rfl rfl rfl rfl ?_
  refine asg rfl rfl rfl rfl rfl ?_
  refine asg rfl rfl rfl rfl rfl ?_
  refine TL'.nil (thenS_normal ?_)
  refine T.seq ?_
  refine T.regionL ?_
  obtain ⟨v_79, e_80, h⟩ := bind_some h
  refine sp rfl (OpT.callPA rfl (dl rfl rfl) Try.func10 rfl rfl (Args.cons rfl Args.nil) (CallR.nil (syntax_Parse_T K e_80)) ?_)
  refine mv rfl rfl rfl rfl rfl ?_
  refine sp rfl (OpT.extract rfl (dl rfl rfl) rfl rfl ?_)
  refine sp rfl (OpT.extract rfl (dl rfl rfl) rfl rfl ?_)
  refine sp rfl (OpT.extract rfl (dl rfl rfl) rfl rfl ?_)
  refine asg rfl rfl rfl rfl rfl ?_
  refine asg rfl rfl rfl rfl rfl ?_
  refine asg rfl rfl rfl rfl rfl ?_
  refine TL'.nil (thenS_normal ?_)
  refine T.seq ?_
  refine T.regionL ?_
  obtain ⟨v_81, e_82, h⟩ := bind_some h
  refine sp rfl (OpT.callPA rfl (dl rfl rfl) Try.func10 rfl rfl (Args.cons rfl Args.nil) (CallR.nil (syntax_Parse_T K e_82)) ?_)
  refine mv rfl rfl rfl rfl rfl ?_
  refine sp rfl (OpT.extract rfl (dl rfl rfl) rfl rfl ?_)
  refine sp rfl (OpT.extract rfl (dl rfl rfl) rfl rfl ?_)
  refine sp rfl (OpT.extract rfl (dl rfl rfl) rfl rfl ?_)
  refine asg rfl rfl rfl rfl rfl ?_
  refine asg rfl rfl rfl rfl rfl ?_
  refine asg rfl rfl rfl rfl rfl ?_
  refine TL'.nil (thenS_normal ?_)
  refine T.seq ?_
  refine T.regionL ?_
  refine mv rfl rfl rfl rfl rfl ?_
  refine sp rfl (OpT.int2 rfl rfl (dl rfl rfl) rfl rfl ?_)
  refine mv rfl rfl rfl rfl rfl ?_
  rcases bif_some h with ⟨c_83, h⟩ | ⟨c_83, h⟩
  · refine TL'.step (.on rfl rfl rfl c_83) (OpT.move rfl (dl rfl rfl) rfl ?_)
    refine TL'.step (.on rfl rfl rfl c_83) (OpT.int2 rfl rfl (dl rfl rfl) rfl rfl ?_)
    refine sp rfl (OpT.pickT rfl (dl rfl rfl) rfl c_83 rfl ?_)
    refine mv rfl rfl rfl rfl rfl ?_
    rcases bif_some h with ⟨c_84, h⟩ | ⟨c_84, h⟩
    · refine TL'.step (.on rfl rfl rfl c_84) (OpT.move rfl (dl rfl rfl) rfl ?_)
      refine TL'.step (.on rfl rfl rfl c_84) (OpT.int2 rfl rfl (dl rfl rfl) rfl rfl ?_)
      refine sp rfl (OpT.pickT rfl (dl rfl rfl) rfl c_84 rfl ?_)
      refine mv rfl rfl rfl rfl rfl ?_
      rcases bif_some h with ⟨c_85, h⟩ | ⟨c_85, h⟩
      · refine TL'.step (.on rfl rfl rfl c_85) (OpT.move rfl (dl rfl rfl) rfl ?_)
        refine TL'.step (.on rfl rfl rfl c_85) (OpT.int2 rfl rfl (dl rfl rfl) rfl rfl ?_)
        refine sp rfl (OpT.pickT rfl (dl rfl rfl) rfl c_85 rfl ?_)
        refine mv rfl rfl rfl rfl rfl ?_
        rcases bif_some h with ⟨c_86, h⟩ | ⟨c_86, h⟩
        · refine TL'.step (.on rfl rfl rfl c_86) (OpT.move rfl (dl rfl rfl) rfl ?_)
          refine TL'.step (.on rfl rfl rfl c_86) (OpT.int2 rfl rfl (dl rfl rfl) rfl rfl ?_)
          refine sp rfl (OpT.pickT rfl (dl rfl rfl) rfl c_86 rfl ?_)
          refine mv rfl rfl rfl rfl rfl ?_
          rcases bif_some h with ⟨c_87, h⟩ | ⟨c_87, h⟩
          · refine TL'.step (.on rfl rfl rfl c_87) (OpT.move rfl (dl rfl rfl) rfl ?_)
            obtain ⟨v_88, e_89, h⟩ := bind_some h
            refine TL'.step (.on rfl rfl rfl c_87) (OpT.callPA rfl (dl rfl rfl) Try.func13 rfl rfl (Args.cons rfl Args.nil) (CallR.nil (raddlelaw04_one_T K e_89)) ?_)
            obtain ⟨v_90, e_91, h⟩ := bind_some h
            refine TL'.step (.on rfl rfl rfl c_87) (OpT.callPA rfl (dl rfl rfl) Try.func13 rfl rfl (Args.cons rfl Args.nil) (CallR.nil (raddlelaw04_one_T K e_91)) ?_)
            refine TL'.step (.on rfl rfl rfl c_87) (OpT.buildSlice (elems := ([(0 : Int), (1 : Int)] : List Int).map (cI .i64)) rfl (dl rfl rfl) Try.underlying34 i3 (by decide) rfl (all1 rfl) rfl rfl rfl (lenAll rfl) (by decide) ?_)
            refine TL'.step (.on rfl rfl rfl c_87) (OpT.thenTurn (OpT.build (l := [.int .u8 (3 : Int), .int .u64 (Arr4.mk 0 0 0 0).a0, .int .u64 (Arr4.mk 0 0 0 0).a1, .int .u64 (Arr4.mk 0 0 0 0).a2, .int .u64 (Arr4.mk 0 0 0 0).a3, .sl true 1 ([(0 : Int), (1 : Int)].map (cI .i64)), .int .i64 (0 : Int), .int .i64 (0 : Int), .str (⟨#[]⟩ : ByteArray)]) rfl (dl rfl rfl) (built_struct (pl := [(0, 1), (1, 4), (5, 1), (6, 1), (7, 1), (8, 1)]) Try.underlying36 i36 rfl) (all1 rfl) rfl rfl rfl) (Turn.weakSlotP 48 (l := [.int .u8 (3 : Int), .int .u64 (Arr4.mk 0 0 0 0).a0, .int .u64 (Arr4.mk 0 0 0 0).a1, .int .u64 (Arr4.mk 0 0 0 0).a2, .int .u64 (Arr4.mk 0 0 0 0).a3, .sl true 1 ([(0 : Int), (1 : Int)].map (cI .i64)), .int .i64 (0 : Int), .int .i64 (0 : Int), .str (⟨#[]⟩ : ByteArray)]) (l' := [.int .u8 (3 : Int), .int .u64 (Arr4.mk 0 0 0 0).a0, .int .u64 (Arr4.mk 0 0 0 0).a1, .int .u64 (Arr4.mk 0 0 0 0).a2, .int .u64 (Arr4.mk 0 0 0 0).a3, .sl false 1 ([(0 : Int), (1 : Int)].map (cI .i64)), .int .i64 (0 : Int), .int .i64 (0 : Int), .str (⟨#[]⟩ : ByteArray)]) (.cons (.same _) (.cons (.same _) (.cons (.same _) (.cons (.same _) (.cons (.same _) (.cons (.full _ _ _) (.cons (.same _) (.cons (.same _) (.cons (.same _) (.refl _))))))))))) ?_)
            obtain ⟨v_92, e_93, h⟩ := bind_some h
            refine TL'.step (.on rfl rfl rfl c_87) (OpT.callPA rfl (dl rfl rfl) Try.func13 rfl rfl (Args.cons rfl Args.nil) (CallR.nil (raddlelaw04_one_T K e_93)) ?_)
            refine TL'.step (.on rfl rfl rfl c_87) (OpT.buildSlice (elems := ([(3 : Int)] : List Int).map (cI .i64)) rfl (dl rfl rfl) Try.underlying34 i3 (by decide) rfl (all1 rfl) rfl rfl rfl (lenAll rfl) (by decide) ?_)
            refine TL'.step (.on rfl rfl rfl c_87) (OpT.thenTurn (OpT.build (l := [.int .u8 (5 : Int), .int .u64 (Arr4.mk 0 0 0 0).a0, .int .u64 (Arr4.mk 0 0 0 0).a1, .int .u64 (Arr4.mk 0 0 0 0).a2, .int .u64 (Arr4.mk 0 0 0 0).a3, .sl true 1 ([(3 : Int)].map (cI .i64)), .int .i64 (0 : Int), .int .i64 (-1 : Int), .str (⟨#[]⟩ : ByteArray)]) rfl (dl rfl rfl) (built_struct (pl := [(0, 1), (1, 4), (5, 1), (6, 1), (7, 1), (8, 1)]) Try.underlying36 i36 rfl) (all1 rfl) rfl rfl rfl) (Turn.weakSlotP 51 (l := [.int .u8 (5 : Int), .int .u64 (Arr4.mk 0 0 0 0).a0, .int .u64 (Arr4.mk 0 0 0 0).a1, .int .u64 (Arr4.mk 0 0 0 0).a2, .int .u64 (Arr4.mk 0 0 0 0).a3, .sl true 1 ([(3 : Int)].map (cI .i64)), .int .i64 (0 : Int), .int .i64 (-1 : Int), .str (⟨#[]⟩ : ByteArray)]) (l' := [.int .u8 (5 : Int), .int .u64 (Arr4.mk 0 0 0 0).a0, .int .u64 (Arr4.mk 0 0 0 0).a1, .int .u64 (Arr4.mk 0 0 0 0).a2, .int .u64 (Arr4.mk 0 0 0 0).a3, .sl false 1 ([(3 : Int)].map (cI .i64)), .int .i64 (0 : Int), .int .i64 (-1 : Int), .str (⟨#[]⟩ : ByteArray)]) (.cons (.same _) (.cons (.same _) (.cons (.same _) (.cons (.same _) (.cons (.same _) (.cons (.full _ _ _) (.cons (.same _) (.cons (.same _) (.cons (.same _) (.refl _))))))))))) ?_)
            refine TL'.step (.on rfl rfl rfl c_87) (OpT.buildSlice (elems := ([(2 : Int), (4 : Int)] : List Int).map (cI .i64)) rfl (dl rfl rfl) Try.underlying34 i3 (by decide) rfl (all1 rfl) rfl rfl rfl (lenAll rfl) (by decide) ?_)
            refine TL'.step (.on rfl rfl rfl c_87) (OpT.thenTurn (OpT.build (l := [.int .u8 (4 : Int), .int .u64 (Arr4.mk 0 0 0 0).a0, .int .u64 (Arr4.mk 0 0 0 0).a1, .int .u64 (Arr4.mk 0 0 0 0).a2, .int .u64 (Arr4.mk 0 0 0 0).a3, .sl true 1 ([(2 : Int), (4 : Int)].map (cI .i64)), .int .i64 (0 : Int), .int .i64 (0 : Int), .str (⟨#[]⟩ : ByteArray)]) rfl (dl rfl rfl) (built_struct (pl := [(0, 1), (1, 4), (5, 1), (6, 1), (7, 1), (8, 1)]) Try.underlying36 i36 rfl) (all1 rfl) rfl rfl rfl) (Turn.weakSlotP 53 (l := [.int .u8 (4 : Int), .int .u64 (Arr4.mk 0 0 0 0).a0, .int .u64 (Arr4.mk 0 0 0 0).a1, .int .u64 (Arr4.mk 0 0 0 0).a2, .int .u64 (Arr4.mk 0 0 0 0).a3, .sl true 1 ([(2 : Int), (4 : Int)].map (cI .i64)), .int .i64 (0 : Int), .int .i64 (0 : Int), .str (⟨#[]⟩ : ByteArray)]) (l' := [.int .u8 (4 : Int), .int .u64 (Arr4.mk 0 0 0 0).a0, .int .u64 (Arr4.mk 0 0 0 0).a1, .int .u64 (Arr4.mk 0 0 0 0).a2, .int .u64 (Arr4.mk 0 0 0 0).a3, .sl false 1 ([(2 : Int), (4 : Int)].map (cI .i64)), .int .i64 (0 : Int), .int .i64 (0 : Int), .str (⟨#[]⟩ : ByteArray)]) (.cons (.same _) (.cons (.same _) (.cons (.same _) (.cons (.same _) (.cons (.same _) (.cons (.full _ _ _) (.cons (.same _) (.cons (.same _) (.cons (.same _) (.refl _))))))))))) ?_)
            refine TL'.step (.on rfl rfl rfl c_87) (OpT.buildSlice (elems := ([v_88, v_90, (api_Node.mk (3 : Int) (Arr4.mk 0 0 0 0) [(0 : Int), (1 : Int)] (0 : Int) (0 : Int) (⟨#[]⟩ : ByteArray)), v_92, (api_Node.mk (5 : Int) (Arr4.mk 0 0 0 0) [(3 : Int)] (0 : Int) (-1 : Int) (⟨#[]⟩ : ByteArray)), (api_Node.mk (4 : Int) (Arr4.mk 0 0 0 0) [(2 : Int), (4 : Int)] (0 : Int) (0 : Int) (⟨#[]⟩ : ByteArray))] : List api_Node).map c_api_Node) rfl (dl rfl rfl) Try.underlying23 i36 (by decide) rfl (all1 rfl) rfl rfl rfl (lenAll rfl) (by decide) ?_)
            obtain ⟨v_94, e_95, h⟩ := bind_some h
            refine TL'.step (.on rfl rfl rfl c_87) (OpT.callPA rfl (dl rfl rfl) Try.func11 rfl rfl (Args.cons rfl (Args.cons rfl Args.nil)) (CallR.nil (raddleref04_Same_T K (flx0 := false) (flx1 := true) e_95)) ?_)
            refine sp rfl (OpT.pickT rfl (dl rfl rfl) rfl c_87 rfl ?_)
            refine asg rfl rfl rfl rfl rfl ?_
            refine TL'.nil (thenS_normal ?_)
            refine T.ret ?_
            exact Fin.done (.cons _ _ _ _ (.tmp 0 _ rfl) .nil) (by cases h; exact ⟨rfl, rfl⟩)
          · refine TL'.passU (.off _ _ _ _ rfl rfl rfl c_87) (dl rfl rfl) ?_
            refine TL'.passU (.off _ _ _ _ rfl rfl rfl c_87) (dl rfl rfl) ?_
            refine TL'.passU (.off _ _ _ _ rfl rfl rfl c_87) (dl rfl rfl) ?_
            refine TL'.passU (.off _ _ _ _ rfl rfl rfl c_87) (dl rfl rfl) ?_
            refine TL'.passU (.off _ _ _ _ rfl rfl rfl c_87) (dl rfl rfl) ?_
            refine TL'.passU (.off _ _ _ _ rfl rfl rfl c_87) (dl rfl rfl) ?_
            refine TL'.passU (.off _ _ _ _ rfl rfl rfl c_87) (dl rfl rfl) ?_
            refine TL'.passU (.off _ _ _ _ rfl rfl rfl c_87) (dl rfl rfl) ?_
            refine TL'.passU (.off _ _ _ _ rfl rfl rfl c_87) (dl rfl rfl) ?_
            refine TL'.passU (.off _ _ _ _ rfl rfl rfl c_87) (dl rfl rfl) ?_
            refine TL'.passU (.off _ _ _ _ rfl rfl rfl c_87) (dl rfl rfl) ?_
            refine TL'.passU (.off _ _ _ _ rfl rfl rfl c_87) (dl rfl rfl) ?_
            refine sp rfl (OpT.pickF rfl (dl rfl rfl) rfl c_87 rfl ?_)
            refine asg rfl rfl rfl rfl rfl ?_
            refine TL'.nil (thenS_normal ?_)
            refine T.ret ?_
            exact Fin.done (.cons _ _ _ _ (.tmp 0 _ rfl) .nil) (by cases h; exact ⟨rfl, rfl⟩)
        · refine TL'.passU (.off _ _ _ _ rfl rfl rfl c_86) (dl rfl rfl) ?_
          refine TL'.passU (.off _ _ _ _ rfl rfl rfl c_86) (dl rfl rfl) ?_
          refine sp rfl (OpT.pickF rfl (dl rfl rfl) rfl c_86 rfl ?_)
          refine mv rfl rfl rfl rfl rfl ?_
          refine TL'.passU (.off _ _ _ _ rfl rfl rfl rfl) (dl rfl rfl) ?_
          refine TL'.passU (.off _ _ _ _ rfl rfl rfl rfl) (dl rfl rfl) ?_
          refine TL'.passU (.off _ _ _ _ rfl rfl rfl rfl) (dl rfl rfl) ?_
          refine TL'.passU (.off _ _ _ _ rfl rfl rfl rfl) (dl rfl rfl) ?_
          refine TL'.passU (.off _ _ _ _ rfl rfl rfl rfl) (dl rfl rfl) ?_
          refine TL'.passU (.off _ _ _ _ rfl rfl rfl rfl) (dl rfl rfl) ?_
          refine TL'.passU (.off _ _ _ _ rfl rfl rfl rfl) (dl rfl rfl) ?_
          refine TL'.passU (.off _ _ _ _ rfl rfl rfl rfl) (dl rfl rfl) ?_
          refine TL'.passU (.off _ _ _ _ rfl rfl rfl rfl) (dl rfl rfl) ?_
          refine TL'.passU (.off _ _ _ _ rfl rfl rfl rfl) (dl rfl rfl) ?_
          refine TL'.passU (.off _ _ _ _ rfl rfl rfl rfl) (dl rfl rfl) ?_
          refine TL'.passU (.off _ _ _ _ rfl rfl rfl rfl) (dl rfl rfl) ?_
          refine sp rfl (OpT.pickF rfl (dl rfl rfl) rfl rfl rfl ?_)
          refine asg rfl rfl rfl rfl rfl ?_
          refine TL'.nil (thenS_normal ?_)
          refine T.ret ?_
          exact Fin.done (.cons _ _ _ _ (.tmp 0 _ rfl) .nil) (by cases h; exact ⟨rfl, rfl⟩)
      · refine TL'.passU (.off _ _ _ _ rfl rfl rfl c_85) (dl rfl rfl) ?_
        refine TL'.passU (.off _ _ _ _ rfl rfl rfl c_85) (dl rfl rfl) ?_
        refine sp rfl (OpT.pickF rfl (dl rfl rfl) rfl c_85 rfl ?_)
        refine mv rfl rfl rfl rfl rfl ?_
        refine TL'.passU (.off _ _ _ _ rfl rfl rfl rfl) (dl rfl rfl) ?_
        refine TL'.passU (.off _ _ _ _ rfl rfl rfl rfl) (dl rfl rfl) ?_
        refine sp rfl (OpT.pickF rfl (dl rfl rfl) rfl rfl rfl ?_)
        refine mv rfl rfl rfl rfl rfl ?_
        refine TL'.passU (.off _ _ _ _ rfl rfl rfl rfl) (dl rfl rfl) ?_
        refine TL'.passU (.off _ _ _ _ rfl rfl rfl rfl) (dl rfl rfl) ?_
        refine TL'.passU (.off _ _ _ _ rfl rfl rfl rfl) (dl rfl rfl) ?_
        refine TL'.passU (.off _ _ _ _ rfl rfl rfl rfl) (dl rfl rfl) ?_
        refine TL'.passU (.off _ _ _ _ rfl rfl rfl rfl) (dl rfl rfl) ?_
        refine TL'.passU (.off _ _ _ _ rfl rfl rfl rfl) (dl rfl rfl) ?_
        refine TL'.passU (.off _ _ _ _ rfl rfl rfl rfl) (dl rfl rfl) ?_
        refine TL'.passU (.off _ _ _ _ rfl rfl rfl rfl) (dl rfl rfl) ?_
        refine TL'.passU (.off _ _ _ _ rfl rfl rfl rfl) (dl rfl rfl) ?_
        refine TL'.passU (.off _ _ _ _ rfl rfl rfl rfl) (dl rfl rfl) ?_
        refine TL'.passU (.off _ _ _ _ rfl rfl rfl rfl) (dl rfl rfl) ?_
        refine TL'.passU (.off _ _ _ _ rfl rfl rfl rfl) (dl rfl rfl) ?_
        refine sp rfl (OpT.pickF rfl (dl rfl rfl) rfl rfl rfl ?_)
        refine asg rfl rfl rfl rfl rfl ?_
        refine TL'.nil (thenS_normal ?_)
        refine T.ret ?_
        exact Fin.done (.cons _ _ _ _ (.tmp 0 _ rfl) .nil) (by cases h; exact ⟨rfl, rfl⟩)
    · refine TL'.passU (.off _ _ _ _ rfl rfl rfl c_84) (dl rfl rfl) ?_
      refine TL'.passU (.off _ _ _ _ rfl rfl rfl c_84) (dl rfl rfl) ?_
      refine sp rfl (OpT.pickF rfl (dl rfl rfl) rfl c_84 rfl ?_)
      refine mv rfl rfl rfl rfl rfl ?_
      refine TL'.passU (.off _ _ _ _ rfl rfl rfl rfl) (dl rfl rfl) ?_
      refine TL'.passU (.off _ _ _ _ rfl rfl rfl rfl) (dl rfl rfl) ?_
      refine sp rfl (OpT.pickF rfl (dl rfl rfl) rfl rfl rfl ?_)
      refine mv rfl rfl rfl rfl rfl ?_
      refine TL'.passU (.off _ _ _ _ rfl rfl rfl rfl) (dl rfl rfl) ?_
      refine TL'.passU (.off _ _ _ _ rfl rfl rfl rfl) (dl rfl rfl) ?_
      refine sp rfl (OpT.pickF rfl (dl rfl rfl) rfl rfl rfl ?_)
      refine mv rfl rfl rfl rfl rfl ?_
      refine TL'.passU (.off _ _ _ _ rfl rfl rfl rfl) (dl rfl rfl) ?_
      refine TL'.passU (.off _ _ _ _ rfl rfl rfl rfl) (dl rfl rfl) ?_
      refine TL'.passU (.off _ _ _ _ rfl rfl rfl rfl) (dl rfl rfl) ?_
      refine TL'.passU (.off _ _ _ _ rfl rfl rfl rfl) (dl rfl rfl) ?_
      refine TL'.passU (.off _ _ _ _ rfl rfl rfl rfl) (dl rfl rfl) ?_
      refine TL'.passU (.off _ _ _ _ rfl rfl rfl rfl) (dl rfl rfl) ?_
      refine TL'.passU (.off _ _ _ _ rfl rfl rfl rfl) (dl rfl rfl) ?_
      refine TL'.passU (.off _ _ _ _ rfl rfl rfl rfl) (dl rfl rfl) ?_
      refine TL'.passU (.off _ _ _ _ rfl rfl rfl rfl) (dl rfl rfl) ?_
      refine TL'.passU (.off _ _ _ _ rfl rfl rfl rfl) (dl rfl rfl) ?_
      refine TL'.passU (.off _ _ _ _ rfl rfl rfl rfl) (dl rfl rfl) ?_
      refine TL'.passU (.off _ _ _ _ rfl rfl rfl rfl) (dl rfl rfl) ?_
      refine sp rfl (OpT.pickF rfl (dl rfl rfl) rfl rfl rfl ?_)
      refine asg rfl rfl rfl rfl rfl ?_
      refine TL'.nil (thenS_normal ?_)
      refine T.ret ?_
      exact Fin.done (.cons _ _ _ _ (.tmp 0 _ rfl) .nil) (by cases h; exact ⟨rfl, rfl⟩)
  · refine TL'.passU (.off _ _ _ _ rfl rfl rfl c_83) (dl rfl rfl) ?_
    refine TL'.passU (.off _ _ _ _ rfl rfl rfl c_83) (dl rfl rfl) ?_
    refine sp rfl (OpT.pickF rfl (dl rfl rfl) rfl c_83 rfl ?_)
    refine mv rfl rfl rfl rfl rfl ?_
    refine TL'.passU (.off _ _ _ _ rfl rfl rfl rfl) (dl rfl rfl) ?_
    refine TL'.passU (.off _ _ _ _ rfl rfl rfl rfl) (dl rfl rfl) ?_
    refine sp rfl (OpT.pickF rfl (dl rfl rfl) rfl rfl rfl ?_)
    refine mv rfl rfl rfl rfl rfl ?_
    refine TL'.passU (.off _ _ _ _ rfl rfl rfl rfl) (dl rfl rfl) ?_
    refine TL'.passU (.off _ _ _ _ rfl rfl rfl rfl) (dl rfl rfl) ?_
    refine sp rfl (OpT.pickF rfl (dl rfl rfl) rfl rfl rfl ?_)
    refine mv rfl rfl rfl rfl rfl ?_
    refine TL'.passU (.off _ _ _ _ rfl rfl rfl rfl) (dl rfl rfl) ?_
    refine TL'.passU (.off _ _ _ _ rfl rfl rfl rfl) (dl rfl rfl) ?_
    refine sp rfl (OpT.pickF rfl (dl rfl rfl) rfl rfl rfl ?_)
    refine mv rfl rfl rfl rfl rfl ?_
    refine TL'.passU (.off _ _ _ _ rfl rfl rfl rfl) (dl rfl rfl) ?_
    refine TL'.passU (.off _ _ _ _ rfl rfl rfl rfl) (dl rfl rfl) ?_
    refine TL'.passU (.off _ _ _ _ rfl rfl rfl rfl) (dl rfl rfl) ?_
    refine TL'.passU (.off _ _ _ _ rfl rfl rfl rfl) (dl rfl rfl) ?_
    refine TL'.passU (.off _ _ _ _ rfl rfl rfl rfl) (dl rfl rfl) ?_
    refine TL'.passU (.off _ _ _ _ rfl rfl rfl rfl) (dl rfl rfl) ?_
    refine TL'.passU (.off _ _ _ _ rfl rfl rfl rfl) (dl rfl rfl) ?_
    refine TL'.passU (.off _ _ _ _ rfl rfl rfl rfl) (dl rfl rfl) ?_
    refine TL'.passU (.off _ _ _ _ rfl rfl rfl rfl) (dl rfl rfl) ?_
    refine TL'.passU (.off _ _ _ _ rfl rfl rfl rfl) (dl rfl rfl) ?_
    refine TL'.passU (.off _ _ _ _ rfl rfl rfl rfl) (dl rfl rfl) ?_
    refine TL'.passU (.off _ _ _ _ rfl rfl rfl rfl) (dl rfl rfl) ?_
    refine sp rfl (OpT.pickF rfl (dl rfl rfl) rfl rfl rfl ?_)
    refine asg rfl rfl rfl rfl rfl ?_
    refine TL'.nil (thenS_normal ?_)
    refine T.ret ?_
    exact Fin.done (.cons _ _ _ _ (.tmp 0 _ rfl) .nil) (by cases h; exact ⟨rfl, rfl⟩)

end Go.Rv

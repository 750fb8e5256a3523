/- Each function computes what its plain text says: printed by a program of ours. -/
import Derived.Test.YtaipjabggdifoaaRgW1
namespace Go.Rv
open Go.Proofs
set_option maxRecDepth 100000
set_option maxHeartbeats 4000000
set_option linter.unusedVariables false

abbrev table_Encode_q (r : (List Int) × Int) : Exit → St → Prop := retS Try.prog Try.f10 (fun y t => y = (.tup [.sl false 1 (r.1.map (cI .u8)), .int .i64 r.2]) ∧ t = [])

abbrev table_Encode_qs11111111 (r : (List Int) × Int) : Exit → St → Prop := thenS (fun s' => T Try.prog 119 (Code.at [1, 1, 1, 1, 1, 1, 1, 1] (codeOf Try.f10)) s' ((table_Encode_q r))) ((table_Encode_q r))

abbrev table_Encode_qb4x11111111 (r : (List Int) × Int) : Exit → St → Prop := inBlockS 4 ((table_Encode_qs11111111 r))

abbrev table_Encode_ql1111111010 (r : (List Int) × Int) : Exit → St → Prop := thenS (fun s' => TL Try.prog 119 (Code.at [1, 1, 1, 1, 1, 1, 1, 0, 1, 0, 0] (codeOf Try.f10)) s' ((table_Encode_qb4x11111111 r))) ((table_Encode_qb4x11111111 r))

abbrev table_Encode_qs11111110100111 (r : (List Int) × Int) : Exit → St → Prop := thenS (fun s' => T Try.prog 119 (Code.at [1, 1, 1, 1, 1, 1, 1, 0, 1, 0, 0, 1, 1, 1] (codeOf Try.f10)) s' ((table_Encode_ql1111111010 r))) ((table_Encode_ql1111111010 r))

abbrev table_Encode_qb5_4x11111110100111 (r : (List Int) × Int) : Exit → St → Prop := inBlockS 5 ((table_Encode_qs11111110100111 r))

abbrev table_Encode_qb6_5_4x11111110100111 (r : (List Int) × Int) : Exit → St → Prop := inBlockS 6 ((table_Encode_qb5_4x11111110100111 r))

abbrev table_Encode_ql111111101001100110 (r : (List Int) × Int) : Exit → St → Prop := thenS (fun s' => TL Try.prog 119 (Code.at [1, 1, 1, 1, 1, 1, 1, 0, 1, 0, 0, 1, 1, 0, 0, 1, 1, 0, 0] (codeOf Try.f10)) s' ((table_Encode_qb6_5_4x11111110100111 r))) ((table_Encode_qb6_5_4x11111110100111 r))

abbrev table_Encode_qs1111111010011001100111 (r : (List Int) × Int) : Exit → St → Prop := thenS (fun s' => T Try.prog 119 (Code.at [1, 1, 1, 1, 1, 1, 1, 0, 1, 0, 0, 1, 1, 0, 0, 1, 1, 0, 0, 1, 1, 1] (codeOf Try.f10)) s' ((table_Encode_ql111111101001100110 r))) ((table_Encode_ql111111101001100110 r))

abbrev table_Encode_qb7_6_5_4x1111111010011001100111 (r : (List Int) × Int) : Exit → St → Prop := inBlockS 7 ((table_Encode_qs1111111010011001100111 r))

abbrev table_Encode_qb8_7_6_5_4x1111111010011001100111 (r : (List Int) × Int) : Exit → St → Prop := inBlockS 8 ((table_Encode_qb7_6_5_4x1111111010011001100111 r))

abbrev table_Encode_qs1111111 (r : (List Int) × Int) : Exit → St → Prop := thenS (fun s' => T Try.prog 119 (Code.at [1, 1, 1, 1, 1, 1, 1] (codeOf Try.f10)) s' ((table_Encode_q r))) ((table_Encode_q r))

abbrev table_Encode_qb2x1111111 (r : (List Int) × Int) : Exit → St → Prop := inBlockS 2 ((table_Encode_qs1111111 r))

abbrev table_Encode_qs11111 (r : (List Int) × Int) : Exit → St → Prop := thenS (fun s' => T Try.prog 119 (Code.at [1, 1, 1, 1, 1] (codeOf Try.f10)) s' ((table_Encode_q r))) ((table_Encode_q r))

abbrev table_Encode_qb0x11111 (r : (List Int) × Int) : Exit → St → Prop := inBlockS 0 ((table_Encode_qs11111 r))

abbrev table_Encode_l3_H (r : (List Int) × Int) (go : api_Auto → Int → Int → (List (List api_Move)) → Int → Int → (List Int) → (List Int) → (List Int) → (List Int) → (List (List api_Move)) → Option ((List Int) × Int)) : Prop := ∀ (x0 : api_Auto) (x68_2_2 : Int) (x69_3_7 : Int) (x74_3_8 : List (List api_Move)) (x75_3_9 : Int) (x76_3_10 : Int) (y4_3_0 : List Int) (y10_3_1 : List Int) (y10_3_2 : List Int) (y10_3_3 : List Int) (y10_3_4 : List (List api_Move)) (b4_3 : Nat) (w4_3 : Value) (b10_3 : Nat), go x0 x68_2_2 x69_3_7 x74_3_8 x75_3_9 x76_3_10 y4_3_0 y10_3_1 y10_3_2 y10_3_3 y10_3_4 = some r → TL Try.prog 119 (Code.at [1, 1, 1, 1, 1, 1, 1, 0, 1, 0, 0, 1, 1, 0, 0, 1, 1, 0, 0] (codeOf Try.f10)) ⟨[(4, .ptr b4_3 0), (10, .ptr b10_3 0), (67, .sl false 4 (x0.States.map c_api_State)), (68, .int .i64 x68_2_2), (69, .int .i64 x69_3_7), (74, .sl false 1 (x74_3_8.map (cL 2 c_api_Move))), (75, .int .i64 x75_3_9), (76, .int .i64 x76_3_10)], [.box b4_3 54 [.d (.ex w4_3)], .arrA w4_3 5 1 (y4_3_0.map (cI .u8)), .box b10_3 59 [.d (.sl false 1 (y10_3_1.map (cI .i64))), .d (.sl false 1 (y10_3_2.map (cI .i64))), .d (.sl false 1 (y10_3_3.map (cI .i64))), .d (.sl false 1 (y10_3_4.map (cL 2 c_api_Move)))]]⟩ (table_Encode_qb6_5_4x11111110100111 r)

theorem table_Encode_l4_T {r : (List Int) × Int} (K : Nat) (go3 : api_Auto → Int → Int → (List (List api_Move)) → Int → Int → (List Int) → (List Int) → (List Int) → (List Int) → (List (List api_Move)) → Option ((List Int) × Int)) (hgo3 : table_Encode_l3_H r go3) : ∀ (k : Nat), ∀ (x0 : api_Auto) (x68_2_2 : Int) (x69_4_7 : Int) (x74_3_8 : List (List api_Move)) (x75_3_9 : Int) (x76_4_10 : Int) (x90_4_11 : List api_Move) (x91_4_12 : Int) (x92_4_13 : Int) (y4_4_0 : List Int) (y10_3_1 : List Int) (y10_3_2 : List Int) (y10_3_3 : List Int) (y10_3_4 : List (List api_Move)) (b4_4 : Nat) (w4_4 : Value) (b10_4 : Nat), table_Encode_l4 K go3 k x0 x68_2_2 x69_4_7 x74_3_8 x75_3_9 x76_4_10 x90_4_11 x91_4_12 x92_4_13 y4_4_0 y10_3_1 y10_3_2 y10_3_3 y10_3_4 = some r → TL Try.prog 119 (Code.at [1, 1, 1, 1, 1, 1, 1, 0, 1, 0, 0, 1, 1, 0, 0, 1, 1, 0, 0, 1, 1, 0, 0, 1, 1, 1, 0, 0] (codeOf Try.f10)) ⟨[(4, .ptr b4_4 0), (10, .ptr b10_4 0), (67, .sl false 4 (x0.States.map c_api_State)), (68, .int .i64 x68_2_2), (69, .int .i64 x69_4_7), (74, .sl false 1 (x74_3_8.map (cL 2 c_api_Move))), (75, .int .i64 x75_3_9), (76, .int .i64 x76_4_10), (90, .sl false 2 (x90_4_11.map c_api_Move)), (91, .int .i64 x91_4_12), (92, .int .i64 x92_4_13)], [.box b4_4 54 [.d (.ex w4_4)], .arrA w4_4 5 1 (y4_4_0.map (cI .u8)), .box b10_4 59 [.d (.sl false 1 (y10_3_1.map (cI .i64))), .d (.sl false 1 (y10_3_2.map (cI .i64))), .d (.sl false 1 (y10_3_3.map (cI .i64))), .d (.sl false 1 (y10_3_4.map (cL 2 c_api_Move)))]]⟩ (table_Encode_qb8_7_6_5_4x1111111010011001100111 r) := by
  intro k
  induction k with
  | zero =>
    intro x0 x68_2_2 x69_4_7 x74_3_8 x75_3_9 x76_4_10 x90_4_11 x91_4_12 x92_4_13 y4_4_0 y10_3_1 y10_3_2 y10_3_3 y10_3_4 b4_4 w4_4 b10_4 h
    cases (show (none : Option ((List Int) × Int)) = some r from h)
  | succ k ih =>
    intro x0 x68_2_2 x69_4_7 x74_3_8 x75_3_9 x76_4_10 x90_4_11 x91_4_12 x92_4_13 y4_4_0 y10_3_1 y10_3_2 y10_3_3 y10_3_4 b4_4 w4_4 b10_4 h
    rw [table_Encode_l4] at h
    refine TL.round ?_
    refine T.seq ?_
    refine T.regionL ?_
    refine sp rfl (OpT.int2 rfl rfl (dl rfl rfl) rfl rfl ?_)
    refine TL'.nil (thenS_normal ?_)
    refine T.seq ?_
    rcases bif_some h with ⟨c_959, h⟩ | ⟨c_959, h⟩
    · refine T.condT rfl c_959 ?_
      refine T.skip (thenS_normal ?_)
      refine T.seq ?_
      refine T.block ?_
      refine T.seq ?_
      refine T.regionL ?_
      obtain ⟨v_960, e_961, h⟩ := bind_some h
      refine sp rfl (OpT.indexSlM (xs := x90_4_11) (f := c_api_Move) (v := v_960) rfl (dl rfl rfl) Try.underlying61 i63 rfl rfl e_961 ?_)
      refine sp rfl (OpT.loadRefAgg rfl (dl rfl rfl) Try.underlying63 rfl i63 rfl (Nat.le_of_ble_eq_true rfl) ?_)
      refine sp rfl (OpT.alloc' rfl (dl rfl rfl) i63 rfl (fun b_962 => ?_))
      refine sp rfl (OpT.storeAggTo (i := 0) (cells' := [.d (.int .i64 v_960.To), .d (.sl false 1 (v_960.Ops.map (cI .u8)))]) rfl rfl i63 rfl rfl rfl rfl (Nat.le_of_ble_eq_true rfl) rfl ?_)
      refine TL'.nil (thenS_normal ?_)
      refine T.seq ?_
      refine T.regionL ?_
      refine mv rfl rfl rfl rfl rfl ?_
      refine sp rfl (OpT.fieldPtr rfl (dl rfl rfl) Try.underlying63 rfl i3 (by decide) rfl ?_)
      refine sp rfl (OpT.loadBox (i := 0) rfl (dl rfl rfl) Try.underlying3 rfl rfl rfl rfl ?_)
      refine sp rfl (OpT.int2 rfl rfl (dl rfl rfl) rfl rfl ?_)
      refine sp rfl (OpT.buildSlice (elems := ([(IntKind.i64.wrap (v_960.To + (1 : Int)))] : List Int).map (cI .i64)) rfl (dl rfl rfl) Try.underlying56 i3 (by decide) rfl (all1 rfl) rfl rfl rfl (lenAll rfl) (by decide) ?_)
      obtain ⟨v_963, e_964, h⟩ := bind_some h
      refine sp rfl (OpT.callG (is := [1, 2]) (ph := []) rfl (dl rfl rfl) Try.func22 rfl rfl (Args.cons rfl (Args.cons rfl Args.nil)) (table_writer_num_T K (bx0 := b4_4) (wx0c0 := w4_4) (flx1 := true) e_964) (.cons rfl rfl (.cons rfl rfl (.nil))) (fun _ => rfl) (fun γ_965 => ?_))
      refine nm (.c (.c (.c (.c (.n))))) ?_
      refine TL'.nil (thenS_normal ?_)
      refine T.by_turn Turn.keepPlace ?_
      refine DGG.start ?_
      refine DGG.step (c := fun γ_966 => ⟨some 102, .ptr b4_4 0, [(4, .ptr b4_4 0)], [], []⟩) [] (fun _ _ _ => rfl) (fun γ_966 t hm => One.step rfl (.free rfl) (OpT.move rfl (dl rfl rfl) hm.s0 ⟨(fun _ => undef, 0), rfl⟩)) (fun γ_966 => Ct.met_of rfl rfl) ?_
      refine DGG.step (c := fun γ_966 => ⟨some 103, .ptr b4_4 0, [(4, .ptr b4_4 0)], [], []⟩) [] (fun _ _ _ => rfl) (fun γ_966 t hm => One.step rfl (.free rfl) (OpT.move rfl (dl rfl rfl) hm.s0 ⟨(fun _ => undef, 0), rfl⟩)) (fun γ_966 => Ct.met_of rfl rfl) ?_
      refine DGG.step (c := fun γ_966 => ⟨some 104, .ptr b4_4 0, [(103, .ptr b4_4 0)], [], []⟩) [] (fun _ _ _ => rfl) (fun γ_966 t hm => One.step rfl (.free rfl) (OpT.nilCheck rfl (dl rfl rfl) hm.s0 rfl ⟨(fun _ => undef, 0), rfl⟩)) (fun γ_966 => Ct.met_of rfl rfl) ?_
      refine DGG.step (c := fun γ_966 => ⟨some 105, .ptr b4_4 (0 + 0), [(104, .ptr b4_4 0)], [], []⟩) [] (fun _ _ _ => rfl) (fun γ_966 t hm => One.step rfl (.free rfl) (OpT.fieldPtr rfl (dl rfl rfl) Try.underlying54 rfl i29 (by decide) hm.s0 ⟨(fun _ => undef, 0), rfl⟩)) (fun γ_966 => Ct.met_of rfl rfl) ?_
      refine DGG.step (c := fun γ_966 => ⟨some 106, .c (.ex (γ_965 0)), [(105, .ptr b4_4 (0 + 0))], [(2, .box b4_4 54 [.d (.ex (γ_965 0))])], []⟩) [] (fun _ _ _ => rfl) (fun γ_966 t hm => One.step rfl (.free rfl) (OpT.loadBox (i := 2) rfl (dl rfl rfl) Try.underlying29 rfl hm.s0 hm.o0 rfl ⟨(fun _ => undef, 0), rfl⟩)) (fun γ_966 => Ct.met_of rfl rfl) ?_
      refine DGG.step (c := fun γ_966 => ⟨some 107, .ptr b_962 (0 + 1), [(14, .ptr b_962 0)], [], []⟩) [] (fun _ _ _ => rfl) (fun γ_966 t hm => One.step rfl (.free rfl) (OpT.fieldPtr rfl (dl rfl rfl) Try.underlying63 rfl i29 (by decide) hm.s0 ⟨(fun _ => undef, 0), rfl⟩)) (fun γ_966 => Ct.met_of rfl rfl) ?_
      refine DGG.step (c := fun γ_966 => ⟨some 108, .sl false 1 (v_960.Ops.map (cI .u8)), [(107, .ptr b_962 (0 + 1))], [(1, .box b_962 63 [.d (.int .i64 v_960.To), .d (.sl false 1 (v_960.Ops.map (cI .u8)))])], []⟩) [] (fun _ _ _ => rfl) (fun γ_966 t hm => One.step rfl (.free rfl) (OpT.loadBox (i := 1) rfl (dl rfl rfl) Try.underlying29 rfl hm.s0 hm.o0 rfl ⟨(fun _ => undef, 0), rfl⟩)) (fun γ_966 => Ct.met_of rfl rfl) ?_
      obtain ⟨g_969, h⟩ := ck_some h
      refine DGG.step (c := fun γ_966 => ⟨some 109, .c (.ex ((γ_966 7).1 0)), [(108, .sl false 1 (v_960.Ops.map (cI .u8))), (106, .c (.ex (γ_965 0)))], [(3, .arrA (γ_965 0) 5 1 (v_963.b.map (cI .u8)))], [(3, .arrA ((γ_966 7).1 0) 5 1 ((v_963.b ++ v_960.Ops).map (cI .u8)))]⟩) [7] (fun γ_966 γ' h => by simp only [h 7 (by decide)]) (fun γ_966 t hm => One.step rfl (.free rfl) (OpT.appendAM (i := 3) (xs := v_963.b) (ys := v_960.Ops) (f := (cI .u8)) rfl (dl rfl rfl) Try.underlying29 i5 rfl hm.s1 hm.o0 hm.s0 g_969 (fun w => ⟨(fun _ => w, 0), rfl⟩))) (fun γ_966 => Ct.met_of rfl rfl) ?_
      refine DGG.step (c := fun γ_966 => ⟨some 110, .ptr b4_4 0, [(102, .ptr b4_4 0)], [], []⟩) [] (fun _ _ _ => rfl) (fun γ_966 t hm => One.step rfl (.free rfl) (OpT.nilCheck rfl (dl rfl rfl) hm.s0 rfl ⟨(fun _ => undef, 0), rfl⟩)) (fun γ_966 => Ct.met_of rfl rfl) ?_
      refine DGG.step (c := fun γ_966 => ⟨some 111, .ptr b4_4 (0 + 0), [(110, .ptr b4_4 0)], [], []⟩) [] (fun _ _ _ => rfl) (fun γ_966 t hm => One.step rfl (.free rfl) (OpT.fieldPtr rfl (dl rfl rfl) Try.underlying54 rfl i29 (by decide) hm.s0 ⟨(fun _ => undef, 0), rfl⟩)) (fun γ_966 => Ct.met_of rfl rfl) ?_
      refine DGG.step (c := fun γ_966 => ⟨none, .any, [(111, .ptr b4_4 (0 + 0)), (109, .c (.ex ((γ_966 7).1 0)))], [(2, .box b4_4 54 [.d (.ex (γ_965 0))])], [(2, .box b4_4 54 [.d (.ex ((γ_966 7).1 0))])]⟩) [7] (fun γ_966 γ' h => by simp only [h 7 (by decide)]) (fun γ_966 t hm => One.step rfl (.free rfl) (OpT.storeTo (i := 2) (cells' := [.d (.ex ((γ_966 7).1 0))]) rfl rfl i29 hm.s0 hm.s1 hm.o0 (Nat.le_of_ble_eq_true rfl) rfl ⟨(fun _ => undef, 0), rfl⟩)) (fun γ_966 => Ct.met_of rfl rfl) ?_
      refine DGG.fin (s1 := fun γ_966 => ⟨[(4, .ptr b4_4 0), (10, .ptr b10_4 0), (67, .sl false 4 (x0.States.map c_api_State)), (68, .int .i64 x68_2_2), (69, .int .i64 x69_4_7), (74, .sl false 1 (x74_3_8.map (cL 2 c_api_Move))), (75, .int .i64 x75_3_9), (76, .int .i64 x76_4_10), (90, .sl false 2 (x90_4_11.map c_api_Move)), (91, .int .i64 x91_4_12), (92, .int .i64 x92_4_13)], [.ro 0 [], .box b_962 63 [.d (.int .i64 v_960.To), .d (.sl false 1 (v_960.Ops.map (cI .u8)))], .box b4_4 54 [.d (.ex ((γ_966 7).1 0))], .arrA ((γ_966 7).1 0) 5 1 ((v_963.b ++ v_960.Ops).map (cI .u8)), .box b10_4 59 [.d (.sl false 1 (y10_3_1.map (cI .i64))), .d (.sl false 1 (y10_3_2.map (cI .i64))), .d (.sl false 1 (y10_3_3.map (cI .i64))), .d (.sl false 1 (y10_3_4.map (cL 2 c_api_Move)))]]⟩) (ms := [0, 0, 2, 6, 14, 0, 32, 126, 255, 511, 1023]) TryMixed rfl (by kernel_rfl) (by kernel_rfl) (by kernel_rfl) (fun γ_966 => by kernel_rfl) (fun γ_966 => .cons rfl (.cons rfl (.cons rfl (.cons rfl (.cons rfl (.cons rfl (.cons rfl (.cons rfl (.cons rfl (.cons rfl (.cons rfl (.nil _)))))))))))) (fun _ => rfl) (fun γ_966 u hu => (inBlock_normal (thenS_normal (T.by_turn hu ?_))))
      refine T.regionL ?_
      refine sp rfl (OpT.int2 rfl rfl (dl rfl rfl) rfl rfl ?_)
      refine mv rfl rfl rfl rfl rfl ?_
      refine TL'.nil (thenS_normal ?_)
      refine TL.by_turn ?_ (ih x0 x68_2_2 x69_4_7 x74_3_8 x75_3_9 x76_4_10 x90_4_11 x91_4_12 (IntKind.i64.wrap (x92_4_13 + (1 : Int))) (v_963.b ++ v_960.Ops) y10_3_1 y10_3_2 y10_3_3 y10_3_4 b4_4 ((γ_966 7).1 0) b10_4 h)
      exact Turn.rp (.cons rfl (.cons rfl (.cons rfl (.cons rfl (.cons rfl (.cons rfl (.cons rfl (.cons rfl (.cons rfl (.cons rfl (.cons rfl (.nil _)))))))))))) (.c (.s (.s .z)) (.c (.s (.s .z)) (.c (.s (.s .z)) (.n _))))
    · refine T.condF rfl c_959 ?_
      refine T.exit (thenS_exit (thenS_exit (inBlock_exit (inBlock_normal (thenS_normal ?_)))))
      refine T.regionL ?_
      refine sp rfl (OpT.int2 rfl rfl (dl rfl rfl) rfl rfl ?_)
      refine mv rfl rfl rfl rfl rfl ?_
      refine TL'.nil (thenS_normal ?_)
      refine TL.by_turn ?_ (hgo3 x0 x68_2_2 x69_4_7 x74_3_8 x75_3_9 (IntKind.i64.wrap (x76_4_10 + (1 : Int))) y4_4_0 y10_3_1 y10_3_2 y10_3_3 y10_3_4 b4_4 w4_4 b10_4 h)
      exact Turn.rp (.cons rfl (.cons rfl (.cons rfl (.cons rfl (.cons rfl (.cons rfl (.cons rfl (.cons rfl (.nil _))))))))) (.c .z (.c .z (.c .z (.n _))))

abbrev table_Encode_l2_H (r : (List Int) × Int) (go : api_Auto → Int → Int → (List Int) → Option ((List Int) × Int)) : Prop := ∀ (x0 : api_Auto) (x68_2_2 : Int) (x69_2_3 : Int) (y4_2_0 : List Int) (b4_2 : Nat) (w4_2 : Value), go x0 x68_2_2 x69_2_3 y4_2_0 = some r → TL Try.prog 119 (Code.at [1, 1, 1, 1, 1, 1, 1, 0, 1, 0, 0] (codeOf Try.f10)) ⟨[(4, .ptr b4_2 0), (67, .sl false 4 (x0.States.map c_api_State)), (68, .int .i64 x68_2_2), (69, .int .i64 x69_2_3)], [.box b4_2 54 [.d (.ex w4_2)], .arrA w4_2 5 1 (y4_2_0.map (cI .u8))]⟩ (table_Encode_qb4x11111111 r)

theorem table_Encode_l3_T {r : (List Int) × Int} (K : Nat) (go2 : api_Auto → Int → Int → (List Int) → Option ((List Int) × Int)) (hgo2 : table_Encode_l2_H r go2) : ∀ (k : Nat), ∀ (x0 : api_Auto) (x68_2_2 : Int) (x69_3_7 : Int) (x74_3_8 : List (List api_Move)) (x75_3_9 : Int) (x76_3_10 : Int) (y4_3_0 : List Int) (y10_3_1 : List Int) (y10_3_2 : List Int) (y10_3_3 : List Int) (y10_3_4 : List (List api_Move)) (b4_3 : Nat) (w4_3 : Value) (b10_3 : Nat), table_Encode_l3 K go2 k x0 x68_2_2 x69_3_7 x74_3_8 x75_3_9 x76_3_10 y4_3_0 y10_3_1 y10_3_2 y10_3_3 y10_3_4 = some r → TL Try.prog 119 (Code.at [1, 1, 1, 1, 1, 1, 1, 0, 1, 0, 0, 1, 1, 0, 0, 1, 1, 0, 0] (codeOf Try.f10)) ⟨[(4, .ptr b4_3 0), (10, .ptr b10_3 0), (67, .sl false 4 (x0.States.map c_api_State)), (68, .int .i64 x68_2_2), (69, .int .i64 x69_3_7), (74, .sl false 1 (x74_3_8.map (cL 2 c_api_Move))), (75, .int .i64 x75_3_9), (76, .int .i64 x76_3_10)], [.box b4_3 54 [.d (.ex w4_3)], .arrA w4_3 5 1 (y4_3_0.map (cI .u8)), .box b10_3 59 [.d (.sl false 1 (y10_3_1.map (cI .i64))), .d (.sl false 1 (y10_3_2.map (cI .i64))), .d (.sl false 1 (y10_3_3.map (cI .i64))), .d (.sl false 1 (y10_3_4.map (cL 2 c_api_Move)))]]⟩ (table_Encode_qb6_5_4x11111110100111 r) := by
  intro k
  induction k with
  | zero =>
    intro x0 x68_2_2 x69_3_7 x74_3_8 x75_3_9 x76_3_10 y4_3_0 y10_3_1 y10_3_2 y10_3_3 y10_3_4 b4_3 w4_3 b10_3 h
    cases (show (none : Option ((List Int) × Int)) = some r from h)
  | succ k ih =>
    intro x0 x68_2_2 x69_3_7 x74_3_8 x75_3_9 x76_3_10 y4_3_0 y10_3_1 y10_3_2 y10_3_3 y10_3_4 b4_3 w4_3 b10_3 h
    rw [table_Encode_l3] at h
    refine TL.round ?_
    refine T.seq ?_
    refine T.regionL ?_
    refine sp rfl (OpT.int2 rfl rfl (dl rfl rfl) rfl rfl ?_)
    refine TL'.nil (thenS_normal ?_)
    refine T.seq ?_
    rcases bif_some h with ⟨c_951, h⟩ | ⟨c_951, h⟩
    · refine T.condT rfl c_951 ?_
      refine T.skip (thenS_normal ?_)
      refine T.seq ?_
      refine T.block ?_
      refine T.seq ?_
      refine T.regionL ?_
      refine mv rfl rfl rfl rfl rfl ?_
      obtain ⟨v_952, e_953, h⟩ := bind_some h
      refine sp rfl (OpT.indexSlM (xs := x74_3_8) (f := (cL 2 c_api_Move)) (v := v_952) rfl (dl rfl rfl) Try.underlying57 i61 rfl rfl e_953 ?_)
      refine sp rfl (OpT.loadRef rfl (dl rfl rfl) Try.underlying61 rfl rfl rfl ?_)
      refine asg rfl rfl rfl rfl rfl ?_
      refine asg rfl rfl rfl rfl rfl ?_
      refine TL'.nil (thenS_normal ?_)
      refine T.seq ?_
      refine T.regionL ?_
      refine mv rfl rfl rfl rfl rfl ?_
      refine sp rfl (OpT.fieldPtr rfl (dl rfl rfl) Try.underlying59 rfl i56 (by decide) rfl ?_)
      refine sp rfl (OpT.loadBox (i := 2) rfl (dl rfl rfl) Try.underlying56 rfl rfl rfl rfl ?_)
      refine mv rfl rfl rfl rfl rfl ?_
      obtain ⟨v_954, e_955, h⟩ := bind_some h
      refine sp rfl (OpT.indexSlM (xs := y10_3_3) (f := (cI .i64)) (v := v_954) rfl (dl rfl rfl) Try.underlying56 i3 rfl rfl e_955 ?_)
      refine sp rfl (OpT.loadRef rfl (dl rfl rfl) Try.underlying3 rfl rfl rfl ?_)
      refine sp rfl (OpT.int2 rfl rfl (dl rfl rfl) rfl rfl ?_)
      refine sp rfl (OpT.buildSlice (elems := ([(IntKind.i64.wrap (v_954 + (1 : Int)))] : List Int).map (cI .i64)) rfl (dl rfl rfl) Try.underlying56 i3 (by decide) rfl (all1 rfl) rfl rfl rfl (lenAll rfl) (by decide) ?_)
      obtain ⟨v_956, e_957, h⟩ := bind_some h
      refine sp rfl (OpT.callG (is := [0, 1]) (ph := []) rfl (dl rfl rfl) Try.func22 rfl rfl (Args.cons rfl (Args.cons rfl Args.nil)) (table_writer_num_T K (bx0 := b4_3) (wx0c0 := w4_3) (flx1 := true) e_957) (.cons rfl rfl (.cons rfl rfl (.nil))) (fun _ => rfl) (fun γ_958 => ?_))
      refine nm (.c (.c (.c (.n)))) ?_
      refine TL'.nil (thenS_normal ?_)
      refine T.seq ?_
      refine T.regionL ?_
      refine mv rfl rfl rfl rfl rfl ?_
      refine sp rfl (OpT.lenSlM (xs := v_952) (f := c_api_Move) rfl (dl rfl rfl) Try.underlying61 rfl ?_)
      refine mv rfl rfl rfl rfl rfl ?_
      refine TL'.nil (thenS_normal ?_)
      refine T.block ?_
      refine T.loop ?_
      refine TL.by_turn ?_ (table_Encode_l4_T K (table_Encode_l3 K go2 k) ih K x0 x68_2_2 x69_3_7 x74_3_8 x75_3_9 x76_3_10 v_952 (v_952.length : Int) (0 : Int) v_956.b y10_3_1 y10_3_2 y10_3_3 y10_3_4 b4_3 (γ_958 0) b10_3 h)
      exact Turn.rp (.cons rfl (.cons rfl (.cons rfl (.cons rfl (.cons rfl (.cons rfl (.cons rfl (.cons rfl (.cons rfl (.cons rfl (.cons rfl (.nil _)))))))))))) (.c .z (.c .z (.c .z (.n _))))
    · refine T.condF rfl c_951 ?_
      refine T.exit (thenS_exit (thenS_exit (inBlock_exit (inBlock_normal (thenS_normal ?_)))))
      refine T.regionL ?_
      refine sp rfl (OpT.int2 rfl rfl (dl rfl rfl) rfl rfl ?_)
      refine mv rfl rfl rfl rfl rfl ?_
      refine TL'.nil (thenS_normal ?_)
      refine TL.by_turn ?_ (hgo2 x0 x68_2_2 (IntKind.i64.wrap (x69_3_7 + (1 : Int))) y4_3_0 b4_3 w4_3 h)
      exact Turn.rp (.cons rfl (.cons rfl (.cons rfl (.cons rfl (.nil _))))) (.c .z (.c .z (.n _)))

theorem table_Encode_l2_T {r : (List Int) × Int} (K : Nat) : ∀ (k : Nat), ∀ (x0 : api_Auto) (x68_2_2 : Int) (x69_2_3 : Int) (y4_2_0 : List Int) (b4_2 : Nat) (w4_2 : Value), table_Encode_l2 K k x0 x68_2_2 x69_2_3 y4_2_0 = some r → TL Try.prog 119 (Code.at [1, 1, 1, 1, 1, 1, 1, 0, 1, 0, 0] (codeOf Try.f10)) ⟨[(4, .ptr b4_2 0), (67, .sl false 4 (x0.States.map c_api_State)), (68, .int .i64 x68_2_2), (69, .int .i64 x69_2_3)], [.box b4_2 54 [.d (.ex w4_2)], .arrA w4_2 5 1 (y4_2_0.map (cI .u8))]⟩ (table_Encode_qb4x11111111 r) := by
  intro k
  induction k with
  | zero =>
    intro x0 x68_2_2 x69_2_3 y4_2_0 b4_2 w4_2 h
    cases (show (none : Option ((List Int) × Int)) = some r from h)
  | succ k ih =>
    intro x0 x68_2_2 x69_2_3 y4_2_0 b4_2 w4_2 h
    rw [table_Encode_l2] at h
    refine TL.round ?_
    refine T.seq ?_
    refine T.regionL ?_
    refine sp rfl (OpT.int2 rfl rfl (dl rfl rfl) rfl rfl ?_)
    refine TL'.nil (thenS_normal ?_)
    refine T.seq ?_
    rcases bif_some h with ⟨c_947, h⟩ | ⟨c_947, h⟩
    · refine T.condT rfl c_947 ?_
      refine T.skip (thenS_normal ?_)
      refine T.seq ?_
      refine T.block ?_
      refine T.seq ?_
      refine T.regionL ?_
      obtain ⟨v_948, e_949, h⟩ := bind_some h
      refine sp rfl (OpT.indexSlM (xs := x0.States) (f := c_api_State) (v := v_948) rfl (dl rfl rfl) Try.underlying26 i59 rfl rfl e_949 ?_)
      refine sp rfl (OpT.loadRefAgg rfl (dl rfl rfl) Try.underlying59 rfl i59 rfl (Nat.le_of_ble_eq_true rfl) ?_)
      refine sp rfl (OpT.alloc' rfl (dl rfl rfl) i59 rfl (fun b_950 => ?_))
      refine sp rfl (OpT.storeAggTo (i := 0) (cells' := [.d (.sl false 1 (v_948.L.map (cI .i64))), .d (.sl false 1 (v_948.R.map (cI .i64))), .d (.sl false 1 (v_948.Rule.map (cI .i64))), .d (.sl false 1 (v_948.Next.map (cL 2 c_api_Move)))]) rfl rfl i59 rfl rfl rfl rfl (Nat.le_of_ble_eq_true rfl) rfl ?_)
      refine TL'.nil (thenS_normal ?_)
      refine T.seq ?_
      refine T.regionL ?_
      refine sp rfl (OpT.fieldPtr rfl (dl rfl rfl) Try.underlying59 rfl i57 (by decide) rfl ?_)
      refine sp rfl (OpT.loadBox (i := 0) rfl (dl rfl rfl) Try.underlying57 rfl rfl rfl rfl ?_)
      refine sp rfl (OpT.lenSlM (xs := v_948.Next) (f := (cL 2 c_api_Move)) rfl (dl rfl rfl) Try.underlying57 rfl ?_)
      refine mv rfl rfl rfl rfl rfl ?_
      refine TL'.nil (thenS_normal ?_)
      refine T.block ?_
      refine T.loop ?_
      refine TL.by_turn ?_ (table_Encode_l3_T K (table_Encode_l2 K k) ih K x0 x68_2_2 x69_2_3 v_948.Next (v_948.Next.length : Int) (0 : Int) y4_2_0 v_948.L v_948.R v_948.Rule v_948.Next b4_2 w4_2 b_950 h)
      exact Turn.rp (.cons rfl (.cons rfl (.cons rfl (.cons rfl (.cons rfl (.cons rfl (.cons rfl (.cons rfl (.nil _))))))))) (.c (.s .z) (.c (.s .z) (.c .z (.n _))))
    · refine T.condF rfl c_947 ?_
      refine T.exit (thenS_exit (thenS_exit (inBlock_exit (thenS_normal ?_))))
      refine T.seq ?_
      refine T.regionL ?_
      refine mv rfl rfl rfl rfl rfl ?_
      refine sp rfl (OpT.nilCheck rfl (dl rfl rfl) rfl rfl ?_)
      refine sp rfl (OpT.fieldPtr rfl (dl rfl rfl) Try.underlying54 rfl i29 (by decide) rfl ?_)
      refine sp rfl (OpT.loadBox (i := 0) rfl (dl rfl rfl) Try.underlying29 rfl rfl rfl rfl ?_)
      refine asg rfl rfl rfl rfl rfl ?_
      refine asg rfl rfl rfl rfl rfl ?_
      refine TL'.nil (thenS_normal ?_)
      refine T.ret ?_
      refine Fin.turn (Turn.view 2 1 rfl rfl) ?_
      exact Fin.done (.cons _ _ _ _ (.tmp 2 _ rfl) (.cons _ _ _ _ (.tmp 3 _ rfl) .nil)) (by cases h; exact ⟨rfl, rfl⟩)

theorem table_Encode_l1_T {r : (List Int) × Int} (K : Nat) : ∀ (k : Nat), ∀ (x0 : api_Auto) (x52_1_6 : Int) (x53_1_7 : Int) (y4_1_4 : List Int) (b1_1 : Nat) (b4_1 : Nat) (w4_1 : Value), table_Encode_l1 K k x0 x52_1_6 x53_1_7 y4_1_4 = some r → TL Try.prog 119 (Code.at [1, 1, 1, 1, 1, 1, 0, 1, 0, 0] (codeOf Try.f10)) ⟨[(1, .ptr b1_1 0), (4, .ptr b4_1 0), (51, .sl false 4 (x0.States.map c_api_State)), (52, .int .i64 x52_1_6), (53, .int .i64 x53_1_7)], [.ro b1_1 ((ArrN.dc 256 .u8 x0.Split.Of) ++ (([.int .i64 x0.Split.Many, .sl false 2 (x0.Counts.map (Arr2.dc .i64)), .sl false 4 (x0.States.map c_api_State)] : List DC))), .box b4_1 54 [.d (.ex w4_1)], .arrA w4_1 5 1 (y4_1_4.map (cI .u8))]⟩ (table_Encode_qb2x1111111 r) := by
  intro k
  induction k with
  | zero =>
    intro x0 x52_1_6 x53_1_7 y4_1_4 b1_1 b4_1 w4_1 h
    cases (show (none : Option ((List Int) × Int)) = some r from h)
  | succ k ih =>
    intro x0 x52_1_6 x53_1_7 y4_1_4 b1_1 b4_1 w4_1 h
    rw [table_Encode_l1] at h
    refine TL.round ?_
    refine T.seq ?_
    refine T.regionL ?_
    refine sp rfl (OpT.int2 rfl rfl (dl rfl rfl) rfl rfl ?_)
    refine TL'.nil (thenS_normal ?_)
    refine T.seq ?_
    rcases bif_some h with ⟨c_937, h⟩ | ⟨c_937, h⟩
    · refine T.condT rfl c_937 ?_
      refine T.skip (thenS_normal ?_)
      refine T.seq ?_
      refine T.block ?_
      refine T.seq ?_
      refine T.regionL ?_
      obtain ⟨v_938, e_939, h⟩ := bind_some h
      refine sp rfl (OpT.indexSlM (xs := x0.States) (f := c_api_State) (v := v_938) rfl (dl rfl rfl) Try.underlying26 i59 rfl rfl e_939 ?_)
      refine sp rfl (OpT.loadRefAgg rfl (dl rfl rfl) Try.underlying59 rfl i59 rfl (Nat.le_of_ble_eq_true rfl) ?_)
      refine sp rfl (OpT.alloc' rfl (dl rfl rfl) i59 rfl (fun b_940 => ?_))
      refine sp rfl (OpT.storeAggTo (i := 0) (cells' := [.d (.sl false 1 (v_938.L.map (cI .i64))), .d (.sl false 1 (v_938.R.map (cI .i64))), .d (.sl false 1 (v_938.Rule.map (cI .i64))), .d (.sl false 1 (v_938.Next.map (cL 2 c_api_Move)))]) rfl rfl i59 rfl rfl rfl rfl (Nat.le_of_ble_eq_true rfl) rfl ?_)
      refine TL'.nil (thenS_normal ?_)
      refine T.seq ?_
      refine T.regionL ?_
      refine mv rfl rfl rfl rfl rfl ?_
      refine sp rfl (OpT.fieldPtr rfl (dl rfl rfl) Try.underlying59 rfl i56 (by decide) rfl ?_)
      refine sp rfl (OpT.loadBox (i := 0) rfl (dl rfl rfl) Try.underlying56 rfl rfl rfl rfl ?_)
      obtain ⟨v_941, e_942, h⟩ := bind_some h
      refine sp rfl (OpT.callG (is := [2, 3]) (ph := []) rfl (dl rfl rfl) Try.func23 rfl rfl (Args.cons rfl (Args.cons rfl Args.nil)) (table_writer_list_T K (bx0 := b4_1) (wx0c0 := w4_1) (flx1 := false) e_942) (.cons rfl rfl (.cons rfl rfl (.nil))) (fun _ => rfl) (fun γ_943 => ?_))
      refine nm (.c (.c (.c (.c (.n))))) ?_
      refine TL'.nil (thenS_normal ?_)
      refine T.regionL ?_
      refine mv rfl rfl rfl rfl rfl ?_
      refine sp rfl (OpT.fieldPtr rfl (dl rfl rfl) Try.underlying59 rfl i56 (by decide) rfl ?_)
      refine sp rfl (OpT.loadBox (i := 0) rfl (dl rfl rfl) Try.underlying56 rfl rfl rfl rfl ?_)
      obtain ⟨v_944, e_945, h⟩ := bind_some h
      refine sp rfl (OpT.callG (is := [2, 3]) (ph := []) rfl (dl rfl rfl) Try.func23 rfl rfl (Args.cons rfl (Args.cons rfl Args.nil)) (table_writer_list_T K (bx0 := b4_1) (wx0c0 := (γ_943 0)) (flx1 := false) e_945) (.cons rfl rfl (.cons rfl rfl (.nil))) (fun _ => rfl) (fun γ_946 => ?_))
      refine nm (.c (.c (.c (.c (.n))))) ?_
      refine TL'.nil (inBlock_normal (thenS_normal ?_))
      refine T.regionL ?_
      refine sp rfl (OpT.int2 rfl rfl (dl rfl rfl) rfl rfl ?_)
      refine mv rfl rfl rfl rfl rfl ?_
      refine TL'.nil (thenS_normal ?_)
      refine TL.by_turn ?_ (ih x0 x52_1_6 (IntKind.i64.wrap (x53_1_7 + (1 : Int))) v_944.b b1_1 b4_1 (γ_946 0) h)
      exact Turn.rp (.cons rfl (.cons rfl (.cons rfl (.cons rfl (.cons rfl (.nil _)))))) (.c (.s .z) (.c (.s .z) (.c (.s .z) (.n _))))
    · refine T.condF rfl c_937 ?_
      refine T.exit (thenS_exit (thenS_exit (inBlock_exit (thenS_normal ?_))))
      refine T.seq ?_
      refine T.seq ?_
      refine T.regionL ?_
      refine sp rfl (OpT.fieldPtr rfl (dl rfl rfl) Try.underlying28 rfl i26 (by decide) rfl ?_)
      refine sp rfl (OpT.loadRo (i := 0) rfl (dl rfl rfl) Try.underlying26 rfl rfl rfl rfl ?_)
      refine sp rfl (OpT.lenSlM (xs := x0.States) (f := c_api_State) rfl (dl rfl rfl) Try.underlying26 rfl ?_)
      refine mv rfl rfl rfl rfl rfl ?_
      refine TL'.nil (thenS_normal ?_)
      refine T.block ?_
      refine T.loop ?_
      refine TL.by_turn ?_ (table_Encode_l2_T K K x0 (x0.States.length : Int) (0 : Int) y4_1_4 b4_1 w4_1 h)
      exact Turn.rp (.cons rfl (.cons rfl (.cons rfl (.cons rfl (.nil _))))) (.c (.s .z) (.c (.s .z) (.n _)))

theorem table_Encode_l0_T {r : (List Int) × Int} (K : Nat) : ∀ (k : Nat), ∀ (x0 : api_Auto) (x35_0_6 : Int) (x36_0_7 : Int) (y4_0_4 : List Int) (b1_0 : Nat) (b4_0 : Nat) (w4_0 : Value), table_Encode_l0 K k x0 x35_0_6 x36_0_7 y4_0_4 = some r → TL Try.prog 119 (Code.at [1, 1, 1, 1, 0, 1, 0, 0] (codeOf Try.f10)) ⟨[(1, .ptr b1_0 0), (4, .ptr b4_0 0), (34, .sl false 2 (x0.Counts.map (Arr2.dc .i64))), (35, .int .i64 x35_0_6), (36, .int .i64 x36_0_7)], [.ro b1_0 ((ArrN.dc 256 .u8 x0.Split.Of) ++ (([.int .i64 x0.Split.Many, .sl false 2 (x0.Counts.map (Arr2.dc .i64)), .sl false 4 (x0.States.map c_api_State)] : List DC))), .box b4_0 54 [.d (.ex w4_0)], .arrA w4_0 5 1 (y4_0_4.map (cI .u8))]⟩ (table_Encode_qb0x11111 r) := by
  intro k
  induction k with
  | zero =>
    intro x0 x35_0_6 x36_0_7 y4_0_4 b1_0 b4_0 w4_0 h
    cases (show (none : Option ((List Int) × Int)) = some r from h)
  | succ k ih =>
    intro x0 x35_0_6 x36_0_7 y4_0_4 b1_0 b4_0 w4_0 h
    rw [table_Encode_l0] at h
    refine TL.round ?_
    refine T.seq ?_
    refine T.regionL ?_
    refine sp rfl (OpT.int2 rfl rfl (dl rfl rfl) rfl rfl ?_)
    refine TL'.nil (thenS_normal ?_)
    refine T.seq ?_
    rcases bif_some h with ⟨c_927, h⟩ | ⟨c_927, h⟩
    · refine T.condT rfl c_927 ?_
      refine T.skip (thenS_normal ?_)
      refine T.seq ?_
      refine T.block ?_
      refine T.seq ?_
      refine T.regionL ?_
      obtain ⟨v_928, e_929, h⟩ := bind_some h
      refine sp rfl (OpT.indexSlM (xs := x0.Counts) (f := (Arr2.dc .i64)) (v := v_928) rfl (dl rfl rfl) Try.underlying25 i42 rfl rfl e_929 ?_)
      refine sp rfl (OpT.loadRefAgg rfl (dl rfl rfl) Try.underlying42 rfl i42 rfl (Nat.le_of_ble_eq_true rfl) ?_)
      refine sp rfl (OpT.alloc' rfl (dl rfl rfl) i42 rfl (fun b_930 => ?_))
      refine sp rfl (OpT.storeAggTo (i := 0) (cells' := (Arr2.oc .i64 v_928)) rfl rfl i42 rfl rfl rfl rfl (Nat.le_of_ble_eq_true rfl) rfl ?_)
      refine TL'.nil (thenS_normal ?_)
      refine T.regionL ?_
      refine mv rfl rfl rfl rfl rfl ?_
      refine TL'.turn (Turn.freeze 0 (l := (Arr2.dc .i64 v_928)) rfl) ?_
      refine sp rfl (OpT.sliceRo (i := 0) (xs := ([v_928.a0, v_928.a1] : List Int)) (f := cI .i64) rfl (dl rfl rfl) Try.underlying42 i3 rfl rfl rfl (by decide) (lenAll rfl) rfl ?_)
      obtain ⟨v_931, e_932, h⟩ := bind_some h
      refine sp rfl (OpT.callG (is := [2, 3]) (ph := []) rfl (dl rfl rfl) Try.func22 rfl rfl (Args.cons rfl (Args.cons rfl Args.nil)) (table_writer_num_T K (bx0 := b4_0) (wx0c0 := w4_0) (flx1 := true) e_932) (.cons rfl rfl (.cons rfl rfl (.nil))) (fun _ => rfl) (fun γ_933 => ?_))
      refine nm (.c (.c (.c (.c (.n))))) ?_
      refine TL'.nil (inBlock_normal (thenS_normal ?_))
      refine T.regionL ?_
      refine sp rfl (OpT.int2 rfl rfl (dl rfl rfl) rfl rfl ?_)
      refine mv rfl rfl rfl rfl rfl ?_
      refine TL'.nil (thenS_normal ?_)
      refine TL.by_turn ?_ (ih x0 x35_0_6 (IntKind.i64.wrap (x36_0_7 + (1 : Int))) v_931.b b1_0 b4_0 (γ_933 0) h)
      exact Turn.rp (.cons rfl (.cons rfl (.cons rfl (.cons rfl (.cons rfl (.nil _)))))) (.c (.s .z) (.c (.s .z) (.c (.s .z) (.n _))))
    · refine T.condF rfl c_927 ?_
      refine T.exit (thenS_exit (thenS_exit (inBlock_exit (thenS_normal ?_))))
      refine T.seq ?_
      refine T.regionL ?_
      refine mv rfl rfl rfl rfl rfl ?_
      refine sp rfl (OpT.fieldPtr rfl (dl rfl rfl) Try.underlying28 rfl i26 (by decide) rfl ?_)
      refine sp rfl (OpT.loadRo (i := 0) rfl (dl rfl rfl) Try.underlying26 rfl rfl rfl rfl ?_)
      refine sp rfl (OpT.lenSlM (xs := x0.States) (f := c_api_State) rfl (dl rfl rfl) Try.underlying26 rfl ?_)
      refine sp rfl (OpT.buildSlice (elems := ([(x0.States.length : Int)] : List Int).map (cI .i64)) rfl (dl rfl rfl) Try.underlying56 i3 (by decide) rfl (all1 rfl) rfl rfl rfl (lenAll rfl) (by decide) ?_)
      obtain ⟨v_934, e_935, h⟩ := bind_some h
      refine sp rfl (OpT.callG (is := [1, 2]) (ph := []) rfl (dl rfl rfl) Try.func22 rfl rfl (Args.cons rfl (Args.cons rfl Args.nil)) (table_writer_num_T K (bx0 := b4_0) (wx0c0 := w4_0) (flx1 := true) e_935) (.cons rfl rfl (.cons rfl rfl (.nil))) (fun _ => rfl) (fun γ_936 => ?_))
      refine nm (.c (.c (.c (.n)))) ?_
      refine TL'.nil (thenS_normal ?_)
      refine T.seq ?_
      refine T.seq ?_
      refine T.regionL ?_
      refine sp rfl (OpT.fieldPtr rfl (dl rfl rfl) Try.underlying28 rfl i26 (by decide) rfl ?_)
      refine sp rfl (OpT.loadRo (i := 0) rfl (dl rfl rfl) Try.underlying26 rfl rfl rfl rfl ?_)
      refine sp rfl (OpT.lenSlM (xs := x0.States) (f := c_api_State) rfl (dl rfl rfl) Try.underlying26 rfl ?_)
      refine mv rfl rfl rfl rfl rfl ?_
      refine TL'.nil (thenS_normal ?_)
      refine T.block ?_
      refine T.loop ?_
      refine TL.by_turn ?_ (table_Encode_l1_T K K x0 (x0.States.length : Int) (0 : Int) v_934.b b1_0 b4_0 (γ_936 0) h)
      exact Turn.rp (.cons rfl (.cons rfl (.cons rfl (.cons rfl (.cons rfl (.nil _)))))) (.c .z (.c .z (.c .z (.n _))))

theorem table_Encode_T (K : Nat) {x0 : api_Auto} {r : (List Int) × Int} (h : table_Encode K x0 = some r) : CallR Try.prog 10 [.agg ((ArrN.dc 256 .u8 x0.Split.Of) ++ (([.int .i64 x0.Split.Many, .sl false 2 (x0.Counts.map (Arr2.dc .i64)), .sl false 4 (x0.States.map c_api_State)] : List DC)))] [] (.tup [.sl false 1 (r.1.map (cI .u8)), .int .i64 r.2]) := by
  refine CallT.intro Try.func10 rfl (Nat.le_of_ble_eq_true rfl) ?_
  show T Try.prog 119 (Code.at [] (codeOf Try.f10)) ⟨paramSlots 0 [.agg ((ArrN.dc 256 .u8 x0.Split.Of) ++ (([.int .i64 x0.Split.Many, .sl false 2 (x0.Counts.map (Arr2.dc .i64)), .sl false 4 (x0.States.map c_api_State)] : List DC)))], []⟩ (table_Encode_q r)
  unfold table_Encode at h
  refine T.seq ?_
  refine T.regionL ?_
  refine sp rfl (OpT.boxAgg rfl (dl rfl rfl) rfl (fun b_913 => ?_))
  refine asg rfl rfl rfl rfl rfl ?_
  refine asg rfl rfl rfl rfl rfl ?_
  refine TL'.nil (thenS_normal ?_)
  refine T.seq ?_
  refine T.seq ?_
  refine T.regionL ?_
  refine sp rfl (OpT.loadBoxAgg (i := 0) (l := ((ArrN.dc 256 .u8 x0.Split.Of) ++ (([.int .i64 x0.Split.Many, .sl false 2 (x0.Counts.map (Arr2.dc .i64)), .sl false 4 (x0.States.map c_api_State)] : List DC)))) rfl (dl rfl rfl) Try.underlying28 rfl i28 rfl rfl rfl rfl ?_)
  obtain ⟨v_914, e_915, h⟩ := bind_some h
  refine sp rfl (OpT.callPA rfl (dl rfl rfl) Try.func20 rfl rfl (Args.cons rfl Args.nil) (CallR.nil (auto_Right_T K e_915)) ?_)
  refine sp rfl (OpT.not rfl (dl rfl rfl) rfl ?_)
  refine TL'.nil (thenS_normal ?_)
  rcases bif_some h with ⟨c_916, h⟩ | ⟨c_916, h⟩
  · refine T.condT rfl c_916 ?_
    refine T.seq ?_
    refine T.regionL ?_
    refine asg rfl rfl rfl rfl rfl ?_
    refine asg rfl rfl rfl rfl rfl ?_
    refine TL'.nil (thenS_normal ?_)
    refine T.ret (thenS_ret ?_)
    refine Fin.turn (Turn.nilSl 2 false 1 rfl) ?_
    exact Fin.done (.cons _ _ _ _ (.tmp 2 _ rfl) (.cons _ _ _ _ (.tmp 3 _ rfl) .nil)) (by cases h; exact ⟨rfl, rfl⟩)
  · refine T.condF rfl c_916 ?_
    refine T.skip (thenS_normal ?_)
    refine T.seq ?_
    refine T.regionL ?_
    refine sp rfl (OpT.buildSliceX (elems := ([(114 : Int), (100 : Int), (100 : Int), (108 : Int)] : List Int).map (cI .u8)) rfl (dl rfl rfl) Try.underlying29 i5 (by decide) rfl (all1 rfl) rfl rfl rfl (lenAll rfl) (by decide) (fun b_917 => ?_))
    refine sp rfl (OpT.convSame (i := 0) (xs := [(114 : Int), (100 : Int), (100 : Int), (108 : Int)]) (f := (cI .u8)) rfl (dl rfl rfl) Try.underlying29 Try.underlying5 rfl rfl rfl (by decide) ?_)
    refine sp rfl (OpT.fieldPtr rfl (dl rfl rfl) Try.underlying28 rfl i24 (by decide) rfl ?_)
    refine sp rfl (OpT.fieldPtr rfl (dl rfl rfl) Try.underlying24 rfl i22 (by decide) rfl ?_)
    refine TL'.turn (Turn.freeze 1 (l := ((ArrN.dc 256 .u8 x0.Split.Of) ++ (([.int .i64 x0.Split.Many, .sl false 2 (x0.Counts.map (Arr2.dc .i64)), .sl false 4 (x0.States.map c_api_State)] : List DC)))) rfl) ?_
    refine sp rfl (OpT.sliceRo (i := 1) (xs := (ArrN.list 256 x0.Split.Of)) (f := cI .u8) rfl (dl rfl rfl) Try.underlying22 i5 rfl rfl ArrN.list_len (by decide) (fun y hy => by obtain ⟨a, _, rfl⟩ := List.mem_map.1 hy; rfl) (Eq.trans (by exact rfl) ArrN.dc_flat.symm) ?_)
    refine TL'.turn (Turn.unfull 19 rfl) ?_
    refine TL'.turn (Turn.unfull 22 rfl) ?_
    refine sp rfl (OpT.buildSlice (elems := ([[(114 : Int), (100 : Int), (100 : Int), (108 : Int)], (ArrN.list 256 x0.Split.Of)] : List (List Int)).map (cL 1 (cI .u8))) rfl (dl rfl rfl) Try.underlying94 i29 (by decide) rfl (all1 rfl) rfl rfl rfl (lenAll rfl) (by decide) ?_)
    refine TL'.turn Turn.keepPlace ?_
    obtain ⟨v_920, e_921, h⟩ := bind_some h
    refine sp rfl (OpT.callG (is := [0]) (ph := [.ro 0 []]) rfl (dl rfl rfl) Try.func21 rfl rfl (Args.cons rfl Args.nil) (slices_Concat_byte_T K (flx0 := true) e_921) (.cons rfl rfl (.nil)) (fun _ => rfl) (fun γ_922 => ?_))
    refine nm (.c (.c (.c (.n)))) ?_
    refine sp rfl (OpT.build (l := [.ex (γ_922 0)]) rfl (dl rfl rfl) (built_struct (pl := [(0, 1)]) Try.underlying54 i54 rfl) (all1 rfl) rfl rfl ?_)
    refine sp rfl (OpT.boxAgg rfl (dl rfl rfl) rfl (fun b_923 => ?_))
    refine asg rfl rfl rfl rfl rfl ?_
    refine TL'.nil (thenS_normal ?_)
    refine T.seq ?_
    refine T.regionL ?_
    refine mv rfl rfl rfl rfl rfl ?_
    refine sp rfl (OpT.fieldPtr rfl (dl rfl rfl) Try.underlying28 rfl i25 (by decide) rfl ?_)
    refine sp rfl (OpT.loadRo (i := 3) rfl (dl rfl rfl) Try.underlying25 rfl rfl rfl rfl ?_)
    refine sp rfl (OpT.lenSlM (xs := x0.Counts) (f := (Arr2.dc .i64)) rfl (dl rfl rfl) Try.underlying25 rfl ?_)
    refine sp rfl (OpT.buildSlice (elems := ([(x0.Counts.length : Int)] : List Int).map (cI .i64)) rfl (dl rfl rfl) Try.underlying56 i3 (by decide) rfl (all1 rfl) rfl rfl rfl (lenAll rfl) (by decide) ?_)
    obtain ⟨v_924, e_925, h⟩ := bind_some h
    refine sp rfl (OpT.callG (is := [0, 1]) (ph := []) rfl (dl rfl rfl) Try.func22 rfl rfl (Args.cons rfl (Args.cons rfl Args.nil)) (table_writer_num_T K (bx0 := b_923) (wx0c0 := (γ_922 0)) (flx1 := true) e_925) (.cons rfl rfl (.cons rfl rfl (.nil))) (fun _ => rfl) (fun γ_926 => ?_))
    refine nm (.c (.c (.c (.c (.n))))) ?_
    refine TL'.nil (thenS_normal ?_)
    refine T.seq ?_
    refine T.seq ?_
    refine T.regionL ?_
    refine sp rfl (OpT.fieldPtr rfl (dl rfl rfl) Try.underlying28 rfl i25 (by decide) rfl ?_)
    refine sp rfl (OpT.loadRo (i := 3) rfl (dl rfl rfl) Try.underlying25 rfl rfl rfl rfl ?_)
    refine sp rfl (OpT.lenSlM (xs := x0.Counts) (f := (Arr2.dc .i64)) rfl (dl rfl rfl) Try.underlying25 rfl ?_)
    refine mv rfl rfl rfl rfl rfl ?_
    refine TL'.nil (thenS_normal ?_)
    refine T.block ?_
    refine T.loop ?_
    refine TL.by_turn ?_ (table_Encode_l0_T K K x0 (x0.Counts.length : Int) (0 : Int) v_924.b b_913 b_923 (γ_926 0) h)
    exact Turn.rp (.cons rfl (.cons rfl (.cons rfl (.cons rfl (.cons rfl (.nil _)))))) (.c (.s (.s (.s .z))) (.c .z (.c .z (.n _))))

abbrev raddleref02_Right_q (r : Bool) : Exit → St → Prop := retS Try.prog Try.f41 (fun y t => y = (.bool r) ∧ t = [])

abbrev raddleref02_Right_qs111 (r : Bool) : Exit → St → Prop := thenS (fun s' => T Try.prog 29 (Code.at [1, 1, 1] (codeOf Try.f41)) s' ((raddleref02_Right_q r))) ((raddleref02_Right_q r))

abbrev raddleref02_Right_qb0x111 (r : Bool) : Exit → St → Prop := inBlockS 0 ((raddleref02_Right_qs111 r))

theorem raddleref02_Right_l0_T {r : Bool} (K : Nat) : ∀ (k : Nat), ∀ (x3_0_2 : Int) (x4_0_3 : Int) (x0 : api_Split) (b1_0 : Nat), raddleref02_Right_l0 K k x3_0_2 x4_0_3 x0 = some r → TL Try.prog 29 (Code.at [1, 1, 0, 1, 0, 0] (codeOf Try.f41)) ⟨[(1, .ptr b1_0 0), (3, .int .i64 x3_0_2), (4, .int .i64 x4_0_3)], [.box b1_0 24 ((ArrN.oc 256 .u8 x0.Of) ++ (([.d (.int .i64 x0.Many)] : List OC)))]⟩ (raddleref02_Right_qb0x111 r) := by
  intro k
  induction k with
  | zero =>
    intro x3_0_2 x4_0_3 x0 b1_0 h
    cases (show (none : Option Bool) = some r from h)
  | succ k ih =>
    intro x3_0_2 x4_0_3 x0 b1_0 h
    rw [raddleref02_Right_l0] at h
    refine TL.round ?_
    refine T.seq ?_
    refine T.seq ?_
    refine T.regionL ?_
    refine mv rfl rfl rfl rfl rfl ?_
    refine sp rfl (OpT.int2 rfl rfl (dl rfl rfl) rfl rfl ?_)
    refine TL'.nil (thenS_normal ?_)
    rcases bif_some h with ⟨c_54, h⟩ | ⟨c_54, h⟩
    · refine T.condT rfl c_54 ?_
      refine T.skip (thenS_normal ?_)
      refine T.seq ?_
      refine T.block ?_
      refine T.seq ?_
      refine T.seq ?_
      refine T.regionL ?_
      refine mv rfl rfl rfl rfl rfl ?_
      refine sp rfl (OpT.fieldPtr rfl (dl rfl rfl) Try.underlying24 rfl i22 (by decide) rfl ?_)
      obtain ⟨g_55, h⟩ := ck_some h
      refine sp rfl (OpT.indexPtr rfl (dl rfl rfl) Try.underlying22 i5 rfl rfl g_55.1 g_55.2 ?_)
      refine sp rfl (OpT.loadBox (i := 0) rfl (dl rfl rfl) Try.underlying5 rfl rfl rfl (ArrN.oc_get (n := 256) (k := .u8) (a := x0.Of) (pre := []) (post := [.d (.int .i64 x0.Many)]) g_55.1 g_55.2) ?_)
      refine sp rfl (OpT.convInt rfl (dl rfl rfl) Try.underlying5 Try.underlying3 rfl ?_)
      refine mv rfl rfl rfl rfl rfl ?_
      refine sp rfl (OpT.int2 rfl rfl (dl rfl rfl) rfl rfl ?_)
      refine TL'.nil (thenS_normal ?_)
      rcases bif_some h with ⟨c_56, h⟩ | ⟨c_56, h⟩
      · refine T.condT rfl c_56 ?_
        refine T.seq ?_
        refine T.regionL ?_
        refine asg rfl rfl rfl rfl rfl ?_
        refine TL'.nil (thenS_normal ?_)
        refine T.ret (thenS_ret (inBlock_ret (thenS_ret (thenS_ret (inBlock_ret (thenS_ret ?_))))))
        exact Fin.done (.cons _ _ _ _ (.tmp 2 _ rfl) .nil) (by cases h; exact ⟨rfl, rfl⟩)
      · refine T.condF rfl c_56 ?_
        refine T.skip (thenS_normal ?_)
        refine T.seq ?_
        refine T.regionL ?_
        refine mv rfl rfl rfl rfl rfl ?_
        refine sp rfl (OpT.fieldPtr rfl (dl rfl rfl) Try.underlying24 rfl i22 (by decide) rfl ?_)
        refine sp rfl (OpT.indexPtr rfl (dl rfl rfl) Try.underlying22 i5 rfl rfl g_55.1 g_55.2 ?_)
        refine sp rfl (OpT.loadBox (i := 0) rfl (dl rfl rfl) Try.underlying5 rfl rfl rfl (ArrN.oc_get (n := 256) (k := .u8) (a := x0.Of) (pre := []) (post := [.d (.int .i64 x0.Many)]) g_55.1 g_55.2) ?_)
        refine sp rfl (OpT.convInt rfl (dl rfl rfl) Try.underlying5 Try.underlying3 rfl ?_)
        refine mv rfl rfl rfl rfl rfl ?_
        refine sp rfl (OpT.int2 rfl rfl (dl rfl rfl) rfl rfl ?_)
        refine TL'.nil (thenS_normal ?_)
        rcases bif_some h with ⟨c_57, h⟩ | ⟨c_57, h⟩
        · refine T.condT rfl c_57 ?_
          refine T.regionL ?_
          refine mv rfl rfl rfl rfl rfl ?_
          refine sp rfl (OpT.int2 rfl rfl (dl rfl rfl) rfl rfl ?_)
          refine asg rfl rfl rfl rfl rfl ?_
          refine TL'.nil (inBlock_normal (thenS_normal ?_))
          refine T.regionL ?_
          refine mv rfl rfl rfl rfl rfl ?_
          refine sp rfl (OpT.int2 rfl rfl (dl rfl rfl) rfl rfl ?_)
          refine asg rfl rfl rfl rfl rfl ?_
          refine TL'.nil (thenS_normal ?_)
          refine TL.by_turn ?_ (ih (IntKind.i64.wrap (x3_0_2 + (1 : Int))) (IntKind.i64.wrap (x4_0_3 + (1 : Int))) x0 b1_0 h)
          exact Turn.rp (.cons rfl (.cons rfl (.cons rfl (.nil _)))) (.c .z (.n _))
        · refine T.condF rfl c_57 ?_
          refine T.skip (inBlock_normal (thenS_normal ?_))
          refine T.regionL ?_
          refine mv rfl rfl rfl rfl rfl ?_
          refine sp rfl (OpT.int2 rfl rfl (dl rfl rfl) rfl rfl ?_)
          refine asg rfl rfl rfl rfl rfl ?_
          refine TL'.nil (thenS_normal ?_)
          refine TL.by_turn ?_ (ih x3_0_2 (IntKind.i64.wrap (x4_0_3 + (1 : Int))) x0 b1_0 h)
          exact Turn.rp (.cons rfl (.cons rfl (.cons rfl (.nil _)))) (.c .z (.n _))
    · refine T.condF rfl c_54 ?_
      refine T.exit (thenS_exit (thenS_exit (inBlock_exit (thenS_normal ?_))))
      refine T.seq ?_
      refine T.regionL ?_
      refine mv rfl rfl rfl rfl rfl ?_
      refine sp rfl (OpT.fieldPtr rfl (dl rfl rfl) Try.underlying24 rfl i3 (by decide) rfl ?_)
      refine sp rfl (OpT.loadBox (i := 0) rfl (dl rfl rfl) Try.underlying3 rfl rfl rfl rfl ?_)
      refine sp rfl (OpT.int2 rfl rfl (dl rfl rfl) rfl rfl ?_)
      refine asg rfl rfl rfl rfl rfl ?_
      refine TL'.nil (thenS_normal ?_)
      refine T.ret ?_
      exact Fin.done (.cons _ _ _ _ (.tmp 2 _ rfl) .nil) (by cases h; exact ⟨rfl, rfl⟩)

theorem raddleref02_Right_T (K : Nat) {x0 : api_Split} {r : Bool} (h : raddleref02_Right K x0 = some r) : CallR Try.prog 41 [.agg ((ArrN.dc 256 .u8 x0.Of) ++ (([.int .i64 x0.Many] : List DC)))] [] (.bool r) := by
  refine CallT.intro Try.func41 rfl (Nat.le_of_ble_eq_true rfl) ?_
  show T Try.prog 29 (Code.at [] (codeOf Try.f41)) ⟨paramSlots 0 [.agg ((ArrN.dc 256 .u8 x0.Of) ++ (([.int .i64 x0.Many] : List DC)))], []⟩ (raddleref02_Right_q r)
  unfold raddleref02_Right at h
  refine T.seq ?_
  refine T.regionL ?_
  refine sp rfl (OpT.boxAgg rfl (dl rfl rfl) rfl (fun b_53 => ?_))
  refine asg rfl rfl rfl rfl rfl ?_
  refine TL'.nil (thenS_normal ?_)
  refine T.seq ?_
  refine T.regionL ?_
  refine asg rfl rfl rfl rfl rfl ?_
  refine TL'.nil (thenS_normal ?_)
  refine T.seq ?_
  refine T.seq ?_
  refine T.regionL ?_
  refine asg rfl rfl rfl rfl rfl ?_
  refine TL'.nil (thenS_normal ?_)
  refine T.block ?_
  refine T.loop ?_
  refine TL.by_turn ?_ (raddleref02_Right_l0_T K K (0 : Int) (0 : Int) x0 b_53 h)
  exact Turn.rp (.cons rfl (.cons rfl (.cons rfl (.nil _)))) (.c .z (.n _))

abbrev raddleref11_Codes_q (r : Int) : Exit → St → Prop := retS Try.prog Try.f50 (fun y t => y = (.int .i64 r) ∧ t = [])

abbrev raddleref11_Codes_qs11 (r : Int) : Exit → St → Prop := thenS (fun s' => T Try.prog 19 (Code.at [1, 1] (codeOf Try.f50)) s' ((raddleref11_Codes_q r))) ((raddleref11_Codes_q r))

abbrev raddleref11_Codes_qs1111 (r : Int) : Exit → St → Prop := thenS (fun s' => T Try.prog 19 (Code.at [1, 1, 1, 1] (codeOf Try.f50)) s' ((raddleref11_Codes_q r))) ((raddleref11_Codes_q r))

abbrev raddleref11_Codes_qb0x1111 (r : Int) : Exit → St → Prop := inBlockS 0 ((raddleref11_Codes_qs1111 r))

theorem raddleref11_Codes_j0_T {r : Int} (K : Nat) (h : raddleref11_Codes_j0 K = some r) : T Try.prog 19 (Code.at [1, 0, 1, 0] (codeOf Try.f50)) ⟨[], []⟩ (raddleref11_Codes_qs11 r) := by
  unfold raddleref11_Codes_j0 at h
  refine T.seq ?_
  refine T.regionL ?_
  refine asg rfl rfl rfl rfl rfl ?_
  refine TL'.nil (thenS_normal ?_)
  refine T.ret (thenS_ret ?_)
  exact Fin.done (.cons _ _ _ _ (.tmp 2 _ rfl) .nil) (by cases h; exact ⟨rfl, rfl⟩)

theorem raddleref11_Codes_l1_T {r : Int} (K : Nat) : ∀ (k : Nat), ∀ (x0 : Int) (x3_1_1 : Int) (x4_1_2 : Int), raddleref11_Codes_l1 K k x0 x3_1_1 x4_1_2 = some r → TL Try.prog 19 (Code.at [1, 1, 1, 0, 1, 0, 0] (codeOf Try.f50)) ⟨[(0, .int .i64 x0), (3, .int .i64 x3_1_1), (4, .int .i64 x4_1_2)], []⟩ (raddleref11_Codes_qb0x1111 r) := by
  intro k
  induction k with
  | zero =>
    intro x0 x3_1_1 x4_1_2 h
    cases (show (none : Option Int) = some r from h)
  | succ k ih =>
    intro x0 x3_1_1 x4_1_2 h
    rw [raddleref11_Codes_l1] at h
    refine TL.round ?_
    refine T.seq ?_
    refine T.seq ?_
    refine T.regionL ?_
    refine mv rfl rfl rfl rfl rfl ?_
    refine mv rfl rfl rfl rfl rfl ?_
    refine sp rfl (OpT.int2 rfl rfl (dl rfl rfl) rfl rfl ?_)
    refine TL'.nil (thenS_normal ?_)
    rcases bif_some h with ⟨c_27, h⟩ | ⟨c_27, h⟩
    · refine T.condT rfl c_27 ?_
      refine T.skip (thenS_normal ?_)
      refine T.seq ?_
      refine T.block ?_
      refine T.regionL ?_
      refine mv rfl rfl rfl rfl rfl ?_
      refine sp rfl (OpT.int2 rfl rfl (dl rfl rfl) rfl rfl ?_)
      refine asg rfl rfl rfl rfl rfl ?_
      refine TL'.nil (inBlock_normal (thenS_normal ?_))
      refine T.regionL ?_
      refine mv rfl rfl rfl rfl rfl ?_
      refine sp rfl (OpT.int2 rfl rfl (dl rfl rfl) rfl rfl ?_)
      refine asg rfl rfl rfl rfl rfl ?_
      refine TL'.nil (thenS_normal ?_)
      refine TL.by_turn ?_ (ih x0 (IntKind.i64.wrap (x3_1_1 * (3 : Int))) (IntKind.i64.wrap (x4_1_2 + (1 : Int))) h)
      exact Turn.rp (.cons rfl (.cons rfl (.cons rfl (.nil _)))) (.n _)
    · refine T.condF rfl c_27 ?_
      refine T.exit (thenS_exit (thenS_exit (inBlock_exit (thenS_normal ?_))))
      refine T.seq ?_
      refine T.regionL ?_
      refine mv rfl rfl rfl rfl rfl ?_
      refine asg rfl rfl rfl rfl rfl ?_
      refine TL'.nil (thenS_normal ?_)
      refine T.ret ?_
      exact Fin.done (.cons _ _ _ _ (.tmp 2 _ rfl) .nil) (by cases h; exact ⟨rfl, rfl⟩)

theorem raddleref11_Codes_T (K : Nat) {x0 : Int} {r : Int} (h : raddleref11_Codes K x0 = some r) : CallR Try.prog 50 [.int .i64 x0] [] (.int .i64 r) := by
  refine CallT.intro Try.func50 rfl (Nat.le_of_ble_eq_true rfl) ?_
  show T Try.prog 19 (Code.at [] (codeOf Try.f50)) ⟨paramSlots 0 [.int .i64 x0], []⟩ (raddleref11_Codes_q r)
  unfold raddleref11_Codes at h
  refine T.seq ?_
  refine T.regionL ?_
  refine asg rfl rfl rfl rfl rfl ?_
  refine TL'.nil (thenS_normal ?_)
  refine T.seq ?_
  refine T.seq ?_
  refine T.regionL ?_
  refine mv rfl rfl rfl rfl rfl ?_
  refine sp rfl (OpT.int2 rfl rfl (dl rfl rfl) rfl rfl ?_)
  refine mv rfl rfl rfl rfl rfl ?_
  rcases bif_some h with ⟨c_25, h⟩ | ⟨c_25, h⟩
  · refine TL'.passU (.off _ _ _ _ rfl rfl rfl c_25) (dl rfl rfl) ?_
    refine TL'.passU (.off _ _ _ _ rfl rfl rfl c_25) (dl rfl rfl) ?_
    refine sp rfl (OpT.pickT rfl (dl rfl rfl) rfl c_25 rfl ?_)
    refine TL'.nil (thenS_normal ?_)
    refine T.condT rfl rfl ?_
    refine T.by_turn ?_ (raddleref11_Codes_j0_T K h)
    exact Turn.rp (.nil _) (.n _)
  · refine TL'.step (.on rfl rfl rfl c_25) (OpT.move rfl (dl rfl rfl) rfl ?_)
    refine TL'.step (.on rfl rfl rfl c_25) (OpT.int2 rfl rfl (dl rfl rfl) rfl rfl ?_)
    refine sp rfl (OpT.pickF rfl (dl rfl rfl) rfl c_25 rfl ?_)
    refine TL'.nil (thenS_normal ?_)
    rcases bif_some h with ⟨c_26, h⟩ | ⟨c_26, h⟩
    · refine T.condT rfl c_26 ?_
      refine T.by_turn ?_ (raddleref11_Codes_j0_T K h)
      exact Turn.rp (.nil _) (.n _)
    · refine T.condF rfl c_26 ?_
      refine T.skip (thenS_normal ?_)
      refine T.seq ?_
      refine T.regionL ?_
      refine asg rfl rfl rfl rfl rfl ?_
      refine TL'.nil (thenS_normal ?_)
      refine T.seq ?_
      refine T.seq ?_
      refine T.regionL ?_
      refine asg rfl rfl rfl rfl rfl ?_
      refine TL'.nil (thenS_normal ?_)
      refine T.block ?_
      refine T.loop ?_
      refine TL.by_turn ?_ (raddleref11_Codes_l1_T K K x0 (1 : Int) (0 : Int) h)
      exact Turn.rp (.cons rfl (.cons rfl (.cons rfl (.nil _)))) (.n _)

abbrev raddleref11_rises_q (r : Bool) : Exit → St → Prop := retS Try.prog Try.f61 (fun y t => y = (.bool r) ∧ t = [])

abbrev raddleref11_rises_qs11 (r : Bool) : Exit → St → Prop := thenS (fun s' => T Try.prog 41 (Code.at [1, 1] (codeOf Try.f61)) s' ((raddleref11_rises_q r))) ((raddleref11_rises_q r))

abbrev raddleref11_rises_qb0x11 (r : Bool) : Exit → St → Prop := inBlockS 0 ((raddleref11_rises_qs11 r))

abbrev raddleref11_rises_ql1010 (r : Bool) : Exit → St → Prop := thenS (fun s' => TL Try.prog 41 (Code.at [1, 0, 1, 0, 0] (codeOf Try.f61)) s' ((raddleref11_rises_qb0x11 r))) ((raddleref11_rises_qb0x11 r))

abbrev raddleref11_rises_qs1010011 (r : Bool) : Exit → St → Prop := thenS (fun s' => T Try.prog 41 (Code.at [1, 0, 1, 0, 0, 1, 1] (codeOf Try.f61)) s' ((raddleref11_rises_ql1010 r))) ((raddleref11_rises_ql1010 r))

abbrev raddleref11_rises_qb1_0x1010011 (r : Bool) : Exit → St → Prop := inBlockS 1 ((raddleref11_rises_qs1010011 r))

theorem raddleref11_rises_j1_T {r : Bool} (K : Nat) (h : raddleref11_rises_j1 K = some r) : T Try.prog 41 (Code.at [1, 0, 1, 0, 0, 1, 0, 0, 1, 0] (codeOf Try.f61)) ⟨[], []⟩ (raddleref11_rises_qb1_0x1010011 r) := by
  unfold raddleref11_rises_j1 at h
  refine T.seq ?_
  refine T.regionL ?_
  refine asg rfl rfl rfl rfl rfl ?_
  refine TL'.nil (thenS_normal ?_)
  refine T.ret (inBlock_ret (thenS_ret (thenS_ret (inBlock_ret (thenS_ret ?_)))))
  exact Fin.done (.cons _ _ _ _ (.tmp 4 _ rfl) .nil) (by cases h; exact ⟨rfl, rfl⟩)

theorem raddleref11_rises_l0_T {r : Bool} (K : Nat) : ∀ (k : Nat), ∀ (x0 : List Int) (x1 : Int) (x5_0_2 : Int) (flx0 : Bool), raddleref11_rises_l0 K k x0 x1 x5_0_2 = some r → TL Try.prog 41 (Code.at [1, 0, 1, 0, 0] (codeOf Try.f61)) ⟨[(0, .sl flx0 1 (x0.map (cI .i64))), (1, .int .i64 x1), (5, .int .i64 x5_0_2)], []⟩ (raddleref11_rises_qb0x11 r) := by
  intro k
  induction k with
  | zero =>
    intro x0 x1 x5_0_2 flx0 h
    cases (show (none : Option Bool) = some r from h)
  | succ k ih =>
    intro x0 x1 x5_0_2 flx0 h
    rw [raddleref11_rises_l0] at h
    refine TL.round ?_
    refine T.seq ?_
    refine T.seq ?_
    refine T.regionL ?_
    refine mv rfl rfl rfl rfl rfl ?_
    refine mv rfl rfl rfl rfl rfl ?_
    refine sp rfl (OpT.lenSlM (xs := x0) (f := (cI .i64)) rfl (dl rfl rfl) Try.underlying56 rfl ?_)
    refine sp rfl (OpT.int2 rfl rfl (dl rfl rfl) rfl rfl ?_)
    refine TL'.nil (thenS_normal ?_)
    rcases bif_some h with ⟨c_126, h⟩ | ⟨c_126, h⟩
    · refine T.condT rfl c_126 ?_
      refine T.skip (thenS_normal ?_)
      refine T.seq ?_
      refine T.block ?_
      refine T.seq ?_
      refine DG.start ?_
      refine DG.mv rfl rfl rfl rfl rfl rfl ?_
      refine DG.mv rfl rfl rfl rfl rfl rfl ?_
      obtain ⟨v_135, e_136, h⟩ := bind_some h
      refine DG.step (c := ⟨some 14, .ref [.int .i64 v_135], [(12, .sl flx0 1 (x0.map (cI .i64))), (13, .int .i64 x5_0_2)], [], []⟩) (fun t hm => One.step rfl (.free rfl) (OpT.indexSlM (xs := x0) (f := (cI .i64)) (v := v_135) rfl (dl rfl rfl) Try.underlying56 i3 hm.s0 hm.s1 e_136 rfl)) (Ct.met_of rfl rfl) ?_
      refine DG.step (c := ⟨some 15, .int .i64 v_135, [(14, .ref [.int .i64 v_135])], [], []⟩) (fun t hm => One.step rfl (.free rfl) (OpT.loadRef rfl (dl rfl rfl) Try.underlying3 rfl hm.s0 rfl rfl)) (Ct.met_of rfl rfl) ?_
      refine DG.step (c := ⟨some 16, .bool (decide (v_135 < (0 : Int))), [(15, .int .i64 v_135)], [], []⟩) (fun t hm => One.step rfl (.free rfl) (OpT.int2 rfl rfl (dl rfl rfl) hm.s0 rfl rfl)) (Ct.met_of rfl rfl) ?_
      refine DG.mv rfl rfl rfl rfl rfl rfl ?_
      rcases bif_some h with ⟨c_137, h⟩ | ⟨c_137, h⟩
      · refine DG.off c_137 rfl rfl rfl rfl rfl rfl ?_
        refine DG.off c_137 rfl rfl rfl rfl rfl rfl ?_
        refine DG.off c_137 rfl rfl rfl rfl rfl rfl ?_
        refine DG.off c_137 rfl rfl rfl rfl rfl rfl ?_
        refine DG.off c_137 rfl rfl rfl rfl rfl rfl ?_
        refine DG.off c_137 rfl rfl rfl rfl rfl rfl ?_
        refine DG.step (c := ⟨some 24, .bool true, [(17, .bool (decide (v_135 < (0 : Int))))], [], []⟩) (fun t hm => One.step rfl (.free rfl) (OpT.pickT rfl (dl rfl rfl) hm.s0 c_137 rfl rfl)) (Ct.met_of rfl rfl) ?_
        refine DG.mv rfl rfl rfl rfl rfl rfl ?_
        refine DG.off rfl rfl rfl rfl rfl rfl rfl ?_
        refine DG.off rfl rfl rfl rfl rfl rfl rfl ?_
        refine DG.off rfl rfl rfl rfl rfl rfl rfl ?_
        refine DG.gone rfl rfl rfl rfl rfl rfl ?_
        refine DG.gone rfl rfl rfl rfl rfl rfl ?_
        refine DG.gone rfl rfl rfl rfl rfl rfl ?_
        refine DG.gone rfl rfl rfl rfl rfl rfl ?_
        refine DG.gone rfl rfl rfl rfl rfl rfl ?_
        refine DG.gone rfl rfl rfl rfl rfl rfl ?_
        refine DG.gone rfl rfl rfl rfl rfl rfl ?_
        refine DG.gone rfl rfl rfl rfl rfl rfl ?_
        refine DG.gone rfl rfl rfl rfl rfl rfl ?_
        refine DG.gone rfl rfl rfl rfl rfl rfl ?_
        refine DG.off rfl rfl rfl rfl rfl rfl rfl ?_
        refine DG.step (c := ⟨some 40, .bool true, [(25, .bool true)], [], []⟩) (fun t hm => One.step rfl (.free rfl) (OpT.pickT rfl (dl rfl rfl) hm.s0 rfl rfl rfl)) (Ct.met_of rfl rfl) ?_
        refine DG.fin (s1 := ⟨[(0, .sl flx0 1 (x0.map (cI .i64))), (1, .int .i64 x1), (5, .int .i64 x5_0_2), (18, .tup []), (19, .tup []), (20, .tup []), (21, .tup []), (22, .tup []), (23, .tup []), (26, .tup []), (27, .tup []), (28, .tup []), (29, .tup []), (30, .tup []), (31, .tup []), (32, .tup []), (33, .tup []), (34, .tup []), (35, .tup []), (36, .tup []), (37, .tup []), (38, .tup []), (39, .tup []), (40, .bool true)], []⟩) (ms := [0, 0, 3, 7, 15, 31, 63, 63, 255, 511, 63, 2047, 4095, 8191, 16383, 32767, 65535, 131071, 131071, 393215, 1048575, 2097151, 131071, 131071, 12713983, 29491199, 67108863, 134217727, 268435455]) TryMixed rfl (by kernel_rfl) (by kernel_rfl) (by kernel_rfl) (.cons rfl (.cons rfl (.cons rfl (.cons rfl (.cons rfl (.cons rfl (.cons rfl (.cons rfl (.cons rfl (.cons rfl (.cons rfl (.cons rfl (.cons rfl (.cons rfl (.cons rfl (.cons rfl (.cons rfl (.cons rfl (.cons rfl (.cons rfl (.cons rfl (.cons rfl (.cons rfl (.cons rfl (.nil _))))))))))))))))))))))))) rfl (fun u hu => (thenS_normal (T.by_turn hu ?_)))
        refine T.condT rfl rfl ?_
        refine T.by_turn ?_ (raddleref11_rises_j1_T K h)
        exact Turn.rp (.nil _) (.n _)
      · refine DG.step (c := ⟨some 18, .sl flx0 1 (x0.map (cI .i64)), [(0, .sl flx0 1 (x0.map (cI .i64))), (17, .bool (decide (v_135 < (0 : Int))))], [], []⟩) (fun t hm => One.step rfl (.on rfl rfl hm.s1 c_137) (OpT.move rfl (dl rfl rfl) hm.s0 rfl)) (Ct.met_of rfl rfl) ?_
        refine DG.step (c := ⟨some 19, .int .i64 x5_0_2, [(5, .int .i64 x5_0_2), (17, .bool (decide (v_135 < (0 : Int))))], [], []⟩) (fun t hm => One.step rfl (.on rfl rfl hm.s1 c_137) (OpT.move rfl (dl rfl rfl) hm.s0 rfl)) (Ct.met_of rfl rfl) ?_
        refine DG.step (c := ⟨some 20, .ref [.int .i64 v_135], [(18, .sl flx0 1 (x0.map (cI .i64))), (19, .int .i64 x5_0_2), (17, .bool (decide (v_135 < (0 : Int))))], [], []⟩) (fun t hm => One.step rfl (.on rfl rfl hm.s2 c_137) (OpT.indexSlM (xs := x0) (f := (cI .i64)) (v := v_135) rfl (dl rfl rfl) Try.underlying56 i3 hm.s0 hm.s1 e_136 rfl)) (Ct.met_of rfl rfl) ?_
        refine DG.step (c := ⟨some 21, .int .i64 v_135, [(20, .ref [.int .i64 v_135]), (17, .bool (decide (v_135 < (0 : Int))))], [], []⟩) (fun t hm => One.step rfl (.on rfl rfl hm.s1 c_137) (OpT.loadRef rfl (dl rfl rfl) Try.underlying3 rfl hm.s0 rfl rfl)) (Ct.met_of rfl rfl) ?_
        refine DG.step (c := ⟨some 22, .int .i64 x1, [(1, .int .i64 x1), (17, .bool (decide (v_135 < (0 : Int))))], [], []⟩) (fun t hm => One.step rfl (.on rfl rfl hm.s1 c_137) (OpT.move rfl (dl rfl rfl) hm.s0 rfl)) (Ct.met_of rfl rfl) ?_
        refine DG.step (c := ⟨some 23, .bool (decide (v_135 ≥ x1)), [(21, .int .i64 v_135), (22, .int .i64 x1), (17, .bool (decide (v_135 < (0 : Int))))], [], []⟩) (fun t hm => One.step rfl (.on rfl rfl hm.s2 c_137) (OpT.int2 rfl rfl (dl rfl rfl) hm.s0 hm.s1 rfl)) (Ct.met_of rfl rfl) ?_
        refine DG.step (c := ⟨some 24, .bool (decide (v_135 ≥ x1)), [(17, .bool (decide (v_135 < (0 : Int)))), (23, .bool (decide (v_135 ≥ x1)))], [], []⟩) (fun t hm => One.step rfl (.free rfl) (OpT.pickF rfl (dl rfl rfl) hm.s0 c_137 hm.s1 rfl)) (Ct.met_of rfl rfl) ?_
        refine DG.mv rfl rfl rfl rfl rfl rfl ?_
        rcases bif_some h with ⟨c_138, h⟩ | ⟨c_138, h⟩
        · refine DG.off c_138 rfl rfl rfl rfl rfl rfl ?_
          refine DG.off c_138 rfl rfl rfl rfl rfl rfl ?_
          refine DG.off c_138 rfl rfl rfl rfl rfl rfl ?_
          refine DG.gone rfl rfl rfl rfl rfl rfl ?_
          refine DG.gone rfl rfl rfl rfl rfl rfl ?_
          refine DG.gone rfl rfl rfl rfl rfl rfl ?_
          refine DG.gone rfl rfl rfl rfl rfl rfl ?_
          refine DG.gone rfl rfl rfl rfl rfl rfl ?_
          refine DG.gone rfl rfl rfl rfl rfl rfl ?_
          refine DG.gone rfl rfl rfl rfl rfl rfl ?_
          refine DG.gone rfl rfl rfl rfl rfl rfl ?_
          refine DG.gone rfl rfl rfl rfl rfl rfl ?_
          refine DG.gone rfl rfl rfl rfl rfl rfl ?_
          refine DG.off c_138 rfl rfl rfl rfl rfl rfl ?_
          refine DG.step (c := ⟨some 40, .bool true, [(25, .bool (decide (v_135 ≥ x1)))], [], []⟩) (fun t hm => One.step rfl (.free rfl) (OpT.pickT rfl (dl rfl rfl) hm.s0 c_138 rfl rfl)) (Ct.met_of rfl rfl) ?_
          refine DG.fin (s1 := ⟨[(0, .sl flx0 1 (x0.map (cI .i64))), (1, .int .i64 x1), (5, .int .i64 x5_0_2), (18, .sl flx0 1 (x0.map (cI .i64))), (19, .int .i64 x5_0_2), (20, .ref [.int .i64 v_135]), (21, .int .i64 v_135), (22, .int .i64 x1), (23, .bool (decide (v_135 ≥ x1))), (26, .tup []), (27, .tup []), (28, .tup []), (29, .tup []), (30, .tup []), (31, .tup []), (32, .tup []), (33, .tup []), (34, .tup []), (35, .tup []), (36, .tup []), (37, .tup []), (38, .tup []), (39, .tup []), (40, .bool true)], []⟩) (ms := [0, 0, 3, 7, 15, 31, 63, 63, 255, 511, 63, 2047, 4095, 8191, 16383, 32767, 65535, 131071, 131071, 393215, 1048575, 2097151, 131071, 131071, 12713983, 29491199, 67108863, 134217727, 268435455]) TryMixed rfl (by kernel_rfl) (by kernel_rfl) (by kernel_rfl) (.cons rfl (.cons rfl (.cons rfl (.cons rfl (.cons rfl (.cons rfl (.cons rfl (.cons rfl (.cons rfl (.cons rfl (.cons rfl (.cons rfl (.cons rfl (.cons rfl (.cons rfl (.cons rfl (.cons rfl (.cons rfl (.cons rfl (.cons rfl (.cons rfl (.cons rfl (.cons rfl (.cons rfl (.nil _))))))))))))))))))))))))) rfl (fun u hu => (thenS_normal (T.by_turn hu ?_)))
          refine T.condT rfl rfl ?_
          refine T.by_turn ?_ (raddleref11_rises_j1_T K h)
          exact Turn.rp (.nil _) (.n _)
        · refine DG.step (c := ⟨some 26, .int .i64 x5_0_2, [(5, .int .i64 x5_0_2), (25, .bool (decide (v_135 ≥ x1)))], [], []⟩) (fun t hm => One.step rfl (.on rfl rfl hm.s1 c_138) (OpT.move rfl (dl rfl rfl) hm.s0 rfl)) (Ct.met_of rfl rfl) ?_
          refine DG.step (c := ⟨some 27, .bool (decide (x5_0_2 > (0 : Int))), [(26, .int .i64 x5_0_2), (25, .bool (decide (v_135 ≥ x1)))], [], []⟩) (fun t hm => One.step rfl (.on rfl rfl hm.s1 c_138) (OpT.int2 rfl rfl (dl rfl rfl) hm.s0 rfl rfl)) (Ct.met_of rfl rfl) ?_
          refine DG.step (c := ⟨some 28, .bool (decide (x5_0_2 > (0 : Int))), [(27, .bool (decide (x5_0_2 > (0 : Int)))), (25, .bool (decide (v_135 ≥ x1)))], [], []⟩) (fun t hm => One.step rfl (.on rfl rfl hm.s1 c_138) (OpT.move rfl (dl rfl rfl) hm.s0 rfl)) (Ct.met_of rfl rfl) ?_
          rcases bif_some h with ⟨c_139, h⟩ | ⟨c_139, h⟩
          · refine DG.step (c := ⟨some 29, .sl flx0 1 (x0.map (cI .i64)), [(0, .sl flx0 1 (x0.map (cI .i64))), (28, .bool (decide (x5_0_2 > (0 : Int))))], [], []⟩) (fun t hm => One.step rfl (.on rfl rfl hm.s1 c_139) (OpT.move rfl (dl rfl rfl) hm.s0 rfl)) (Ct.met_of rfl rfl) ?_
            refine DG.step (c := ⟨some 30, .int .i64 x5_0_2, [(5, .int .i64 x5_0_2), (28, .bool (decide (x5_0_2 > (0 : Int))))], [], []⟩) (fun t hm => One.step rfl (.on rfl rfl hm.s1 c_139) (OpT.move rfl (dl rfl rfl) hm.s0 rfl)) (Ct.met_of rfl rfl) ?_
            refine DG.step (c := ⟨some 31, .int .i64 (IntKind.i64.wrap (x5_0_2 - (1 : Int))), [(30, .int .i64 x5_0_2), (28, .bool (decide (x5_0_2 > (0 : Int))))], [], []⟩) (fun t hm => One.step rfl (.on rfl rfl hm.s1 c_139) (OpT.int2 rfl rfl (dl rfl rfl) hm.s0 rfl rfl)) (Ct.met_of rfl rfl) ?_
            obtain ⟨v_140, e_141, h⟩ := bind_some h
            refine DG.step (c := ⟨some 32, .ref [.int .i64 v_140], [(29, .sl flx0 1 (x0.map (cI .i64))), (31, .int .i64 (IntKind.i64.wrap (x5_0_2 - (1 : Int)))), (28, .bool (decide (x5_0_2 > (0 : Int))))], [], []⟩) (fun t hm => One.step rfl (.on rfl rfl hm.s2 c_139) (OpT.indexSlM (xs := x0) (f := (cI .i64)) (v := v_140) rfl (dl rfl rfl) Try.underlying56 i3 hm.s0 hm.s1 e_141 rfl)) (Ct.met_of rfl rfl) ?_
            refine DG.step (c := ⟨some 33, .int .i64 v_140, [(32, .ref [.int .i64 v_140]), (28, .bool (decide (x5_0_2 > (0 : Int))))], [], []⟩) (fun t hm => One.step rfl (.on rfl rfl hm.s1 c_139) (OpT.loadRef rfl (dl rfl rfl) Try.underlying3 rfl hm.s0 rfl rfl)) (Ct.met_of rfl rfl) ?_
            refine DG.step (c := ⟨some 34, .sl flx0 1 (x0.map (cI .i64)), [(0, .sl flx0 1 (x0.map (cI .i64))), (28, .bool (decide (x5_0_2 > (0 : Int))))], [], []⟩) (fun t hm => One.step rfl (.on rfl rfl hm.s1 c_139) (OpT.move rfl (dl rfl rfl) hm.s0 rfl)) (Ct.met_of rfl rfl) ?_
            refine DG.step (c := ⟨some 35, .int .i64 x5_0_2, [(5, .int .i64 x5_0_2), (28, .bool (decide (x5_0_2 > (0 : Int))))], [], []⟩) (fun t hm => One.step rfl (.on rfl rfl hm.s1 c_139) (OpT.move rfl (dl rfl rfl) hm.s0 rfl)) (Ct.met_of rfl rfl) ?_
            refine DG.step (c := ⟨some 36, .ref [.int .i64 v_135], [(34, .sl flx0 1 (x0.map (cI .i64))), (35, .int .i64 x5_0_2), (28, .bool (decide (x5_0_2 > (0 : Int))))], [], []⟩) (fun t hm => One.step rfl (.on rfl rfl hm.s2 c_139) (OpT.indexSlM (xs := x0) (f := (cI .i64)) (v := v_135) rfl (dl rfl rfl) Try.underlying56 i3 hm.s0 hm.s1 e_136 rfl)) (Ct.met_of rfl rfl) ?_
            refine DG.step (c := ⟨some 37, .int .i64 v_135, [(36, .ref [.int .i64 v_135]), (28, .bool (decide (x5_0_2 > (0 : Int))))], [], []⟩) (fun t hm => One.step rfl (.on rfl rfl hm.s1 c_139) (OpT.loadRef rfl (dl rfl rfl) Try.underlying3 rfl hm.s0 rfl rfl)) (Ct.met_of rfl rfl) ?_
            refine DG.step (c := ⟨some 38, .bool (decide (v_140 ≥ v_135)), [(33, .int .i64 v_140), (37, .int .i64 v_135), (28, .bool (decide (x5_0_2 > (0 : Int))))], [], []⟩) (fun t hm => One.step rfl (.on rfl rfl hm.s2 c_139) (OpT.int2 rfl rfl (dl rfl rfl) hm.s0 hm.s1 rfl)) (Ct.met_of rfl rfl) ?_
            refine DG.step (c := ⟨some 39, .bool (decide (v_140 ≥ v_135)), [(28, .bool (decide (x5_0_2 > (0 : Int)))), (38, .bool (decide (v_140 ≥ v_135))), (25, .bool (decide (v_135 ≥ x1)))], [], []⟩) (fun t hm => One.step rfl (.on rfl rfl hm.s2 c_138) (OpT.pickT rfl (dl rfl rfl) hm.s0 c_139 hm.s1 rfl)) (Ct.met_of rfl rfl) ?_
            refine DG.step (c := ⟨some 40, .bool (decide (v_140 ≥ v_135)), [(25, .bool (decide (v_135 ≥ x1))), (39, .bool (decide (v_140 ≥ v_135)))], [], []⟩) (fun t hm => One.step rfl (.free rfl) (OpT.pickF rfl (dl rfl rfl) hm.s0 c_138 hm.s1 rfl)) (Ct.met_of rfl rfl) ?_
            refine DG.fin (s1 := ⟨[(0, .sl flx0 1 (x0.map (cI .i64))), (1, .int .i64 x1), (5, .int .i64 x5_0_2), (18, .sl flx0 1 (x0.map (cI .i64))), (19, .int .i64 x5_0_2), (20, .ref [.int .i64 v_135]), (21, .int .i64 v_135), (22, .int .i64 x1), (23, .bool (decide (v_135 ≥ x1))), (26, .int .i64 x5_0_2), (27, .bool (decide (x5_0_2 > (0 : Int)))), (28, .bool (decide (x5_0_2 > (0 : Int)))), (29, .sl flx0 1 (x0.map (cI .i64))), (30, .int .i64 x5_0_2), (31, .int .i64 (IntKind.i64.wrap (x5_0_2 - (1 : Int)))), (32, .ref [.int .i64 v_140]), (33, .int .i64 v_140), (34, .sl flx0 1 (x0.map (cI .i64))), (35, .int .i64 x5_0_2), (36, .ref [.int .i64 v_135]), (37, .int .i64 v_135), (38, .bool (decide (v_140 ≥ v_135))), (39, .bool (decide (v_140 ≥ v_135))), (40, .bool (decide (v_140 ≥ v_135)))], []⟩) (ms := [0, 0, 3, 7, 15, 31, 63, 63, 255, 511, 63, 2047, 4095, 8191, 16383, 32767, 65535, 131071, 131071, 393215, 1048575, 2097151, 131071, 131071, 12713983, 29491199, 67108863, 134217727, 268435455]) TryMixed rfl (by kernel_rfl) (by kernel_rfl) (by kernel_rfl) (.cons rfl (.cons rfl (.cons rfl (.cons rfl (.cons rfl (.cons rfl (.cons rfl (.cons rfl (.cons rfl (.cons rfl (.cons rfl (.cons rfl (.cons rfl (.cons rfl (.cons rfl (.cons rfl (.cons rfl (.cons rfl (.cons rfl (.cons rfl (.cons rfl (.cons rfl (.cons rfl (.cons rfl (.nil _))))))))))))))))))))))))) rfl (fun u hu => (thenS_normal (T.by_turn hu ?_)))
            rcases bif_some h with ⟨c_142, h⟩ | ⟨c_142, h⟩
            · refine T.condT rfl c_142 ?_
              refine T.by_turn ?_ (raddleref11_rises_j1_T K h)
              exact Turn.rp (.nil _) (.n _)
            · refine T.condF rfl c_142 ?_
              refine T.skip (inBlock_normal (thenS_normal ?_))
              refine T.regionL ?_
              refine mv rfl rfl rfl rfl rfl ?_
              refine sp rfl (OpT.int2 rfl rfl (dl rfl rfl) rfl rfl ?_)
              refine asg rfl rfl rfl rfl rfl ?_
              refine TL'.nil (thenS_normal ?_)
              refine TL.by_turn ?_ (ih x0 x1 (IntKind.i64.wrap (x5_0_2 + (1 : Int))) flx0 h)
              exact Turn.rp (.cons rfl (.cons rfl (.cons rfl (.nil _)))) (.n _)
          · refine DG.off c_139 rfl rfl rfl rfl rfl rfl ?_
            refine DG.off c_139 rfl rfl rfl rfl rfl rfl ?_
            refine DG.off c_139 rfl rfl rfl rfl rfl rfl ?_
            refine DG.off c_139 rfl rfl rfl rfl rfl rfl ?_
            refine DG.off c_139 rfl rfl rfl rfl rfl rfl ?_
            refine DG.off c_139 rfl rfl rfl rfl rfl rfl ?_
            refine DG.off c_139 rfl rfl rfl rfl rfl rfl ?_
            refine DG.off c_139 rfl rfl rfl rfl rfl rfl ?_
            refine DG.off c_139 rfl rfl rfl rfl rfl rfl ?_
            refine DG.off c_139 rfl rfl rfl rfl rfl rfl ?_
            refine DG.step (c := ⟨some 39, .bool false, [(28, .bool (decide (x5_0_2 > (0 : Int)))), (25, .bool (decide (v_135 ≥ x1)))], [], []⟩) (fun t hm => One.step rfl (.on rfl rfl hm.s1 c_138) (OpT.pickF rfl (dl rfl rfl) hm.s0 c_139 rfl rfl)) (Ct.met_of rfl rfl) ?_
            refine DG.step (c := ⟨some 40, .bool false, [(25, .bool (decide (v_135 ≥ x1))), (39, .bool false)], [], []⟩) (fun t hm => One.step rfl (.free rfl) (OpT.pickF rfl (dl rfl rfl) hm.s0 c_138 hm.s1 rfl)) (Ct.met_of rfl rfl) ?_
            refine DG.fin (s1 := ⟨[(0, .sl flx0 1 (x0.map (cI .i64))), (1, .int .i64 x1), (5, .int .i64 x5_0_2), (18, .sl flx0 1 (x0.map (cI .i64))), (19, .int .i64 x5_0_2), (20, .ref [.int .i64 v_135]), (21, .int .i64 v_135), (22, .int .i64 x1), (23, .bool (decide (v_135 ≥ x1))), (26, .int .i64 x5_0_2), (27, .bool (decide (x5_0_2 > (0 : Int)))), (28, .bool (decide (x5_0_2 > (0 : Int)))), (29, .tup []), (30, .tup []), (31, .tup []), (32, .tup []), (33, .tup []), (34, .tup []), (35, .tup []), (36, .tup []), (37, .tup []), (38, .tup []), (39, .bool false), (40, .bool false)], []⟩) (ms := [0, 0, 3, 7, 15, 31, 63, 63, 255, 511, 63, 2047, 4095, 8191, 16383, 32767, 65535, 131071, 131071, 393215, 1048575, 2097151, 131071, 131071, 12713983, 29491199, 67108863, 134217727, 268435455]) TryMixed rfl (by kernel_rfl) (by kernel_rfl) (by kernel_rfl) (.cons rfl (.cons rfl (.cons rfl (.cons rfl (.cons rfl (.cons rfl (.cons rfl (.cons rfl (.cons rfl (.cons rfl (.cons rfl (.cons rfl (.cons rfl (.cons rfl (.cons rfl (.cons rfl (.cons rfl (.cons rfl (.cons rfl (.cons rfl (.cons rfl (.cons rfl (.cons rfl (.cons rfl (.nil _))))))))))))))))))))))))) rfl (fun u hu => (thenS_normal (T.by_turn hu ?_)))
            refine T.condF rfl rfl ?_
            refine T.skip (inBlock_normal (thenS_normal ?_))
            refine T.regionL ?_
            refine mv rfl rfl rfl rfl rfl ?_
            refine sp rfl (OpT.int2 rfl rfl (dl rfl rfl) rfl rfl ?_)
            refine asg rfl rfl rfl rfl rfl ?_
            refine TL'.nil (thenS_normal ?_)
            refine TL.by_turn ?_ (ih x0 x1 (IntKind.i64.wrap (x5_0_2 + (1 : Int))) flx0 h)
            exact Turn.rp (.cons rfl (.cons rfl (.cons rfl (.nil _)))) (.n _)
    · refine T.condF rfl c_126 ?_
      refine T.exit (thenS_exit (thenS_exit (inBlock_exit (thenS_normal ?_))))
      refine T.seq ?_
      refine T.regionL ?_
      refine asg rfl rfl rfl rfl rfl ?_
      refine TL'.nil (thenS_normal ?_)
      refine T.ret ?_
      exact Fin.done (.cons _ _ _ _ (.tmp 4 _ rfl) .nil) (by cases h; exact ⟨rfl, rfl⟩)

theorem raddleref11_rises_T (K : Nat) {x0 : List Int} {x1 : Int} {flx0 : Bool} {r : Bool} (h : raddleref11_rises K x0 x1 = some r) : CallR Try.prog 61 [.sl flx0 1 (x0.map (cI .i64)), .int .i64 x1] [] (.bool r) := by
  refine CallT.intro Try.func61 rfl (Nat.le_of_ble_eq_true rfl) ?_
  show T Try.prog 41 (Code.at [] (codeOf Try.f61)) ⟨paramSlots 0 [.sl flx0 1 (x0.map (cI .i64)), .int .i64 x1], []⟩ (raddleref11_rises_q r)
  unfold raddleref11_rises at h
  refine T.seq ?_
  refine T.regionL ?_
  refine asg rfl rfl rfl rfl rfl ?_
  refine TL'.nil (thenS_normal ?_)
  refine T.seq ?_
  refine T.seq ?_
  refine T.regionL ?_
  refine asg rfl rfl rfl rfl rfl ?_
  refine TL'.nil (thenS_normal ?_)
  refine T.block ?_
  refine T.loop ?_
  refine TL.by_turn ?_ (raddleref11_rises_l0_T K K x0 x1 (0 : Int) flx0 h)
  exact Turn.rp (.cons rfl (.cons rfl (.cons rfl (.nil _)))) (.n _)

abbrev raddleref11_in_q (r : Bool) : Exit → St → Prop := retS Try.prog Try.f84 (fun y t => y = (.bool r) ∧ t = [])

abbrev raddleref11_in_qs11 (r : Bool) : Exit → St → Prop := thenS (fun s' => T Try.prog 18 (Code.at [1, 1] (codeOf Try.f84)) s' ((raddleref11_in_q r))) ((raddleref11_in_q r))

abbrev raddleref11_in_qb0x11 (r : Bool) : Exit → St → Prop := inBlockS 0 ((raddleref11_in_qs11 r))

theorem raddleref11_in_l0_T {r : Bool} (K : Nat) : ∀ (k : Nat), ∀ (x0 : List Int) (x1 : Int) (x5_0_2 : Int) (flx0 : Bool), raddleref11_in_l0 K k x0 x1 x5_0_2 = some r → TL Try.prog 18 (Code.at [1, 0, 1, 0, 0] (codeOf Try.f84)) ⟨[(0, .sl flx0 1 (x0.map (cI .i64))), (1, .int .i64 x1), (5, .int .i64 x5_0_2)], []⟩ (raddleref11_in_qb0x11 r) := by
  intro k
  induction k with
  | zero =>
    intro x0 x1 x5_0_2 flx0 h
    cases (show (none : Option Bool) = some r from h)
  | succ k ih =>
    intro x0 x1 x5_0_2 flx0 h
    rw [raddleref11_in_l0] at h
    refine TL.round ?_
    refine T.seq ?_
    refine T.seq ?_
    refine T.regionL ?_
    refine mv rfl rfl rfl rfl rfl ?_
    refine mv rfl rfl rfl rfl rfl ?_
    refine sp rfl (OpT.lenSlM (xs := x0) (f := (cI .i64)) rfl (dl rfl rfl) Try.underlying56 rfl ?_)
    refine sp rfl (OpT.int2 rfl rfl (dl rfl rfl) rfl rfl ?_)
    refine TL'.nil (thenS_normal ?_)
    rcases bif_some h with ⟨c_37, h⟩ | ⟨c_37, h⟩
    · refine T.condT rfl c_37 ?_
      refine T.skip (thenS_normal ?_)
      refine T.seq ?_
      refine T.block ?_
      refine T.seq ?_
      refine T.regionL ?_
      refine mv rfl rfl rfl rfl rfl ?_
      refine mv rfl rfl rfl rfl rfl ?_
      obtain ⟨v_38, e_39, h⟩ := bind_some h
      refine sp rfl (OpT.indexSlM (xs := x0) (f := (cI .i64)) (v := v_38) rfl (dl rfl rfl) Try.underlying56 i3 rfl rfl e_39 ?_)
      refine sp rfl (OpT.loadRef rfl (dl rfl rfl) Try.underlying3 rfl rfl rfl ?_)
      refine mv rfl rfl rfl rfl rfl ?_
      refine sp rfl (OpT.int2 rfl rfl (dl rfl rfl) rfl rfl ?_)
      refine TL'.nil (thenS_normal ?_)
      rcases bif_some h with ⟨c_40, h⟩ | ⟨c_40, h⟩
      · refine T.condT rfl c_40 ?_
        refine T.seq ?_
        refine T.regionL ?_
        refine asg rfl rfl rfl rfl rfl ?_
        refine TL'.nil (thenS_normal ?_)
        refine T.ret (inBlock_ret (thenS_ret (thenS_ret (inBlock_ret (thenS_ret ?_)))))
        exact Fin.done (.cons _ _ _ _ (.tmp 4 _ rfl) .nil) (by cases h; exact ⟨rfl, rfl⟩)
      · refine T.condF rfl c_40 ?_
        refine T.skip (inBlock_normal (thenS_normal ?_))
        refine T.regionL ?_
        refine mv rfl rfl rfl rfl rfl ?_
        refine sp rfl (OpT.int2 rfl rfl (dl rfl rfl) rfl rfl ?_)
        refine asg rfl rfl rfl rfl rfl ?_
        refine TL'.nil (thenS_normal ?_)
        refine TL.by_turn ?_ (ih x0 x1 (IntKind.i64.wrap (x5_0_2 + (1 : Int))) flx0 h)
        exact Turn.rp (.cons rfl (.cons rfl (.cons rfl (.nil _)))) (.n _)
    · refine T.condF rfl c_37 ?_
      refine T.exit (thenS_exit (thenS_exit (inBlock_exit (thenS_normal ?_))))
      refine T.seq ?_
      refine T.regionL ?_
      refine asg rfl rfl rfl rfl rfl ?_
      refine TL'.nil (thenS_normal ?_)
      refine T.ret ?_
      exact Fin.done (.cons _ _ _ _ (.tmp 4 _ rfl) .nil) (by cases h; exact ⟨rfl, rfl⟩)

theorem raddleref11_in_T (K : Nat) {x0 : List Int} {x1 : Int} {flx0 : Bool} {r : Bool} (h : raddleref11_in K x0 x1 = some r) : CallR Try.prog 84 [.sl flx0 1 (x0.map (cI .i64)), .int .i64 x1] [] (.bool r) := by
  refine CallT.intro Try.func84 rfl (Nat.le_of_ble_eq_true rfl) ?_
  show T Try.prog 18 (Code.at [] (codeOf Try.f84)) ⟨paramSlots 0 [.sl flx0 1 (x0.map (cI .i64)), .int .i64 x1], []⟩ (raddleref11_in_q r)
  unfold raddleref11_in at h
  refine T.seq ?_
  refine T.regionL ?_
  refine asg rfl rfl rfl rfl rfl ?_
  refine TL'.nil (thenS_normal ?_)
  refine T.seq ?_
  refine T.seq ?_
  refine T.regionL ?_
  refine asg rfl rfl rfl rfl rfl ?_
  refine TL'.nil (thenS_normal ?_)
  refine T.block ?_
  refine T.loop ?_
  refine TL.by_turn ?_ (raddleref11_in_l0_T K K x0 x1 (0 : Int) flx0 h)
  exact Turn.rp (.cons rfl (.cons rfl (.cons rfl (.nil _)))) (.n _)

abbrev raddleref11_move_q (r : Bool) : Exit → St → Prop := retS Try.prog Try.f62 (fun y t => y = (.bool r) ∧ t = [])

abbrev raddleref11_move_qs111 (r : Bool) : Exit → St → Prop := thenS (fun s' => T Try.prog 85 (Code.at [1, 1, 1] (codeOf Try.f62)) s' ((raddleref11_move_q r))) ((raddleref11_move_q r))

abbrev raddleref11_move_qs1111 (r : Bool) : Exit → St → Prop := thenS (fun s' => T Try.prog 85 (Code.at [1, 1, 1, 1] (codeOf Try.f62)) s' ((raddleref11_move_q r))) ((raddleref11_move_q r))

abbrev raddleref11_move_qb0x1111 (r : Bool) : Exit → St → Prop := inBlockS 0 ((raddleref11_move_qs1111 r))

abbrev raddleref11_move_ql111010 (r : Bool) : Exit → St → Prop := thenS (fun s' => TL Try.prog 85 (Code.at [1, 1, 1, 0, 1, 0, 0] (codeOf Try.f62)) s' ((raddleref11_move_qb0x1111 r))) ((raddleref11_move_qb0x1111 r))

abbrev raddleref11_move_qs111010011 (r : Bool) : Exit → St → Prop := thenS (fun s' => T Try.prog 85 (Code.at [1, 1, 1, 0, 1, 0, 0, 1, 1] (codeOf Try.f62)) s' ((raddleref11_move_ql111010 r))) ((raddleref11_move_ql111010 r))

abbrev raddleref11_move_qb1_0x111010011 (r : Bool) : Exit → St → Prop := inBlockS 1 ((raddleref11_move_qs111010011 r))

theorem raddleref11_move_j0_T {r : Bool} (K : Nat) (h : raddleref11_move_j0 K = some r) : T Try.prog 85 (Code.at [1, 1, 0, 1, 0] (codeOf Try.f62)) ⟨[], []⟩ (raddleref11_move_qs111 r) := by
  unfold raddleref11_move_j0 at h
  refine T.seq ?_
  refine T.regionL ?_
  refine asg rfl rfl rfl rfl rfl ?_
  refine TL'.nil (thenS_normal ?_)
  refine T.ret (thenS_ret ?_)
  exact Fin.done (.cons _ _ _ _ (.tmp 6 _ rfl) .nil) (by cases h; exact ⟨rfl, rfl⟩)

theorem raddleref11_move_j2_T {r : Bool} (K : Nat) (h : raddleref11_move_j2 K = some r) : T Try.prog 85 (Code.at [1, 1, 1, 0, 1, 0, 0, 1, 0, 0, 1, 0] (codeOf Try.f62)) ⟨[], []⟩ (raddleref11_move_qb1_0x111010011 r) := by
  unfold raddleref11_move_j2 at h
  refine T.seq ?_
  refine T.regionL ?_
  refine asg rfl rfl rfl rfl rfl ?_
  refine TL'.nil (thenS_normal ?_)
  refine T.ret (inBlock_ret (thenS_ret (thenS_ret (inBlock_ret (thenS_ret ?_)))))
  exact Fin.done (.cons _ _ _ _ (.tmp 6 _ rfl) .nil) (by cases h; exact ⟨rfl, rfl⟩)

theorem raddleref11_move_l1_T {r : Bool} (K : Nat) : ∀ (k : Nat), ∀ (x7_1_10 : Int) (x0 : api_Auto) (x1 : api_State) (x2 : api_Move) (b3_1 : Nat) (b4_1 : Nat) (b5_1 : Nat), raddleref11_move_l1 K k x7_1_10 x0 x1 x2 = some r → TL Try.prog 85 (Code.at [1, 1, 1, 0, 1, 0, 0] (codeOf Try.f62)) ⟨[(3, .ptr b3_1 0), (4, .ptr b4_1 0), (5, .ptr b5_1 0), (7, .int .i64 x7_1_10)], [.box b3_1 28 ((ArrN.oc 256 .u8 x0.Split.Of) ++ (([.d (.int .i64 x0.Split.Many), .d (.sl false 2 (x0.Counts.map (Arr2.dc .i64))), .d (.sl false 4 (x0.States.map c_api_State))] : List OC))), .box b4_1 59 [.d (.sl false 1 (x1.L.map (cI .i64))), .d (.sl false 1 (x1.R.map (cI .i64))), .d (.sl false 1 (x1.Rule.map (cI .i64))), .d (.sl false 1 (x1.Next.map (cL 2 c_api_Move)))], .box b5_1 63 [.d (.int .i64 x2.To), .d (.sl false 1 (x2.Ops.map (cI .u8)))]]⟩ (raddleref11_move_qb0x1111 r) := by
  intro k
  induction k with
  | zero =>
    intro x7_1_10 x0 x1 x2 b3_1 b4_1 b5_1 h
    cases (show (none : Option Bool) = some r from h)
  | succ k ih =>
    intro x7_1_10 x0 x1 x2 b3_1 b4_1 b5_1 h
    rw [raddleref11_move_l1] at h
    refine TL.round ?_
    refine T.seq ?_
    refine T.seq ?_
    refine T.regionL ?_
    refine mv rfl rfl rfl rfl rfl ?_
    refine sp rfl (OpT.fieldPtr rfl (dl rfl rfl) Try.underlying63 rfl i29 (by decide) rfl ?_)
    refine sp rfl (OpT.loadBox (i := 2) rfl (dl rfl rfl) Try.underlying29 rfl rfl rfl rfl ?_)
    refine sp rfl (OpT.lenSlM (xs := x2.Ops) (f := (cI .u8)) rfl (dl rfl rfl) Try.underlying29 rfl ?_)
    refine sp rfl (OpT.int2 rfl rfl (dl rfl rfl) rfl rfl ?_)
    refine TL'.nil (thenS_normal ?_)
    rcases bif_some h with ⟨c_366, h⟩ | ⟨c_366, h⟩
    · refine T.condT rfl c_366 ?_
      refine T.skip (thenS_normal ?_)
      refine T.seq ?_
      refine T.block ?_
      refine T.seq ?_
      refine DG.start ?_
      refine DG.step (c := ⟨some 47, .ptr b5_1 (0 + 1), [(5, .ptr b5_1 0)], [], []⟩) (fun t hm => One.step rfl (.free rfl) (OpT.fieldPtr rfl (dl rfl rfl) Try.underlying63 rfl i29 (by decide) hm.s0 rfl)) (Ct.met_of rfl rfl) ?_
      refine DG.step (c := ⟨some 48, .sl false 1 (x2.Ops.map (cI .u8)), [(47, .ptr b5_1 (0 + 1))], [(2, .box b5_1 63 [.d (.int .i64 x2.To), .d (.sl false 1 (x2.Ops.map (cI .u8)))])], []⟩) (fun t hm => One.step rfl (.free rfl) (OpT.loadBox (i := 2) rfl (dl rfl rfl) Try.underlying29 rfl hm.s0 hm.o0 rfl rfl)) (Ct.met_of rfl rfl) ?_
      refine DG.mv rfl rfl rfl rfl rfl rfl ?_
      obtain ⟨v_379, e_380, h⟩ := bind_some h
      refine DG.step (c := ⟨some 50, .ref [.int .u8 v_379], [(48, .sl false 1 (x2.Ops.map (cI .u8))), (49, .int .i64 x7_1_10)], [], []⟩) (fun t hm => One.step rfl (.free rfl) (OpT.indexSlM (xs := x2.Ops) (f := (cI .u8)) (v := v_379) rfl (dl rfl rfl) Try.underlying29 i5 hm.s0 hm.s1 e_380 rfl)) (Ct.met_of rfl rfl) ?_
      refine DG.step (c := ⟨some 51, .int .u8 v_379, [(50, .ref [.int .u8 v_379])], [], []⟩) (fun t hm => One.step rfl (.free rfl) (OpT.loadRef rfl (dl rfl rfl) Try.underlying5 rfl hm.s0 rfl rfl)) (Ct.met_of rfl rfl) ?_
      refine DG.step (c := ⟨some 52, .bool (decide (v_379 < (1 : Int))), [(51, .int .u8 v_379)], [], []⟩) (fun t hm => One.step rfl (.free rfl) (OpT.int2 rfl rfl (dl rfl rfl) hm.s0 rfl rfl)) (Ct.met_of rfl rfl) ?_
      refine DG.mv rfl rfl rfl rfl rfl rfl ?_
      rcases bif_some h with ⟨c_381, h⟩ | ⟨c_381, h⟩
      · refine DG.off c_381 rfl rfl rfl rfl rfl rfl ?_
        refine DG.off c_381 rfl rfl rfl rfl rfl rfl ?_
        refine DG.off c_381 rfl rfl rfl rfl rfl rfl ?_
        refine DG.off c_381 rfl rfl rfl rfl rfl rfl ?_
        refine DG.off c_381 rfl rfl rfl rfl rfl rfl ?_
        refine DG.off c_381 rfl rfl rfl rfl rfl rfl ?_
        refine DG.step (c := ⟨some 60, .bool true, [(53, .bool (decide (v_379 < (1 : Int))))], [], []⟩) (fun t hm => One.step rfl (.free rfl) (OpT.pickT rfl (dl rfl rfl) hm.s0 c_381 rfl rfl)) (Ct.met_of rfl rfl) ?_
        refine DG.mv rfl rfl rfl rfl rfl rfl ?_
        refine DG.off rfl rfl rfl rfl rfl rfl rfl ?_
        refine DG.off rfl rfl rfl rfl rfl rfl rfl ?_
        refine DG.off rfl rfl rfl rfl rfl rfl rfl ?_
        refine DG.off rfl rfl rfl rfl rfl rfl rfl ?_
        refine DG.off rfl rfl rfl rfl rfl rfl rfl ?_
        refine DG.off rfl rfl rfl rfl rfl rfl rfl ?_
        refine DG.off rfl rfl rfl rfl rfl rfl rfl ?_
        refine DG.gone rfl rfl rfl rfl rfl rfl ?_
        refine DG.gone rfl rfl rfl rfl rfl rfl ?_
        refine DG.gone rfl rfl rfl rfl rfl rfl ?_
        refine DG.gone rfl rfl rfl rfl rfl rfl ?_
        refine DG.gone rfl rfl rfl rfl rfl rfl ?_
        refine DG.gone rfl rfl rfl rfl rfl rfl ?_
        refine DG.gone rfl rfl rfl rfl rfl rfl ?_
        refine DG.gone rfl rfl rfl rfl rfl rfl ?_
        refine DG.gone rfl rfl rfl rfl rfl rfl ?_
        refine DG.gone rfl rfl rfl rfl rfl rfl ?_
        refine DG.gone rfl rfl rfl rfl rfl rfl ?_
        refine DG.gone rfl rfl rfl rfl rfl rfl ?_
        refine DG.gone rfl rfl rfl rfl rfl rfl ?_
        refine DG.gone rfl rfl rfl rfl rfl rfl ?_
        refine DG.off rfl rfl rfl rfl rfl rfl rfl ?_
        refine DG.step (c := ⟨some 84, .bool true, [(61, .bool true)], [], []⟩) (fun t hm => One.step rfl (.free rfl) (OpT.pickT rfl (dl rfl rfl) hm.s0 rfl rfl rfl)) (Ct.met_of rfl rfl) ?_
        refine DG.fin (s1 := ⟨[(3, .ptr b3_1 0), (4, .ptr b4_1 0), (5, .ptr b5_1 0), (7, .int .i64 x7_1_10), (54, .tup []), (55, .tup []), (56, .tup []), (57, .tup []), (58, .tup []), (59, .tup []), (62, .tup []), (63, .tup []), (64, .tup []), (65, .tup []), (66, .tup []), (67, .tup []), (68, .tup []), (69, .tup []), (70, .tup []), (71, .tup []), (72, .tup []), (73, .tup []), (74, .tup []), (75, .tup []), (76, .tup []), (77, .tup []), (78, .tup []), (79, .tup []), (80, .tup []), (81, .tup []), (82, .tup []), (83, .tup []), (84, .bool true)], [.box b3_1 28 ((ArrN.oc 256 .u8 x0.Split.Of) ++ (([.d (.int .i64 x0.Split.Many), .d (.sl false 2 (x0.Counts.map (Arr2.dc .i64))), .d (.sl false 4 (x0.States.map c_api_State))] : List OC))), .box b4_1 59 [.d (.sl false 1 (x1.L.map (cI .i64))), .d (.sl false 1 (x1.R.map (cI .i64))), .d (.sl false 1 (x1.Rule.map (cI .i64))), .d (.sl false 1 (x1.Next.map (cL 2 c_api_Move)))], .box b5_1 63 [.d (.int .i64 x2.To), .d (.sl false 1 (x2.Ops.map (cI .u8)))]]⟩) (ms := [0, 1, 0, 7, 15, 31, 63, 127, 255, 127, 1023, 2047, 4095, 8191, 16383, 32767, 65535, 32767, 262143, 524287, 1048575, 2097151, 4194303, 8388607, 4194303, 20971519, 4194303, 71303167, 255852543, 524287999, 1061158911, 4194303, 4282384383, 8577351679, 17179869183, 34359738367, 68719476735, 137438953471]) TryMixed rfl (by kernel_rfl) (by kernel_rfl) (by kernel_rfl) (.cons rfl (.cons rfl (.cons rfl (.cons rfl (.cons rfl (.cons rfl (.cons rfl (.cons rfl (.cons rfl (.cons rfl (.cons rfl (.cons rfl (.cons rfl (.cons rfl (.cons rfl (.cons rfl (.cons rfl (.cons rfl (.cons rfl (.cons rfl (.cons rfl (.cons rfl (.cons rfl (.cons rfl (.cons rfl (.cons rfl (.cons rfl (.cons rfl (.cons rfl (.cons rfl (.cons rfl (.cons rfl (.cons rfl (.nil _)))))))))))))))))))))))))))))))))) rfl (fun u hu => (thenS_normal (T.by_turn hu ?_)))
        refine T.condT rfl rfl ?_
        refine T.by_turn ?_ (raddleref11_move_j2_T K h)
        exact Turn.rp (.nil _) (.n _)
      · refine DG.step (c := ⟨some 54, .ptr b5_1 (0 + 1), [(5, .ptr b5_1 0), (53, .bool (decide (v_379 < (1 : Int))))], [], []⟩) (fun t hm => One.step rfl (.on rfl rfl hm.s1 c_381) (OpT.fieldPtr rfl (dl rfl rfl) Try.underlying63 rfl i29 (by decide) hm.s0 rfl)) (Ct.met_of rfl rfl) ?_
        refine DG.step (c := ⟨some 55, .sl false 1 (x2.Ops.map (cI .u8)), [(54, .ptr b5_1 (0 + 1)), (53, .bool (decide (v_379 < (1 : Int))))], [(2, .box b5_1 63 [.d (.int .i64 x2.To), .d (.sl false 1 (x2.Ops.map (cI .u8)))])], []⟩) (fun t hm => One.step rfl (.on rfl rfl hm.s1 c_381) (OpT.loadBox (i := 2) rfl (dl rfl rfl) Try.underlying29 rfl hm.s0 hm.o0 rfl rfl)) (Ct.met_of rfl rfl) ?_
        refine DG.step (c := ⟨some 56, .int .i64 x7_1_10, [(7, .int .i64 x7_1_10), (53, .bool (decide (v_379 < (1 : Int))))], [], []⟩) (fun t hm => One.step rfl (.on rfl rfl hm.s1 c_381) (OpT.move rfl (dl rfl rfl) hm.s0 rfl)) (Ct.met_of rfl rfl) ?_
        refine DG.step (c := ⟨some 57, .ref [.int .u8 v_379], [(55, .sl false 1 (x2.Ops.map (cI .u8))), (56, .int .i64 x7_1_10), (53, .bool (decide (v_379 < (1 : Int))))], [], []⟩) (fun t hm => One.step rfl (.on rfl rfl hm.s2 c_381) (OpT.indexSlM (xs := x2.Ops) (f := (cI .u8)) (v := v_379) rfl (dl rfl rfl) Try.underlying29 i5 hm.s0 hm.s1 e_380 rfl)) (Ct.met_of rfl rfl) ?_
        refine DG.step (c := ⟨some 58, .int .u8 v_379, [(57, .ref [.int .u8 v_379]), (53, .bool (decide (v_379 < (1 : Int))))], [], []⟩) (fun t hm => One.step rfl (.on rfl rfl hm.s1 c_381) (OpT.loadRef rfl (dl rfl rfl) Try.underlying5 rfl hm.s0 rfl rfl)) (Ct.met_of rfl rfl) ?_
        refine DG.step (c := ⟨some 59, .bool (decide (v_379 > (3 : Int))), [(58, .int .u8 v_379), (53, .bool (decide (v_379 < (1 : Int))))], [], []⟩) (fun t hm => One.step rfl (.on rfl rfl hm.s1 c_381) (OpT.int2 rfl rfl (dl rfl rfl) hm.s0 rfl rfl)) (Ct.met_of rfl rfl) ?_
        refine DG.step (c := ⟨some 60, .bool (decide (v_379 > (3 : Int))), [(53, .bool (decide (v_379 < (1 : Int)))), (59, .bool (decide (v_379 > (3 : Int))))], [], []⟩) (fun t hm => One.step rfl (.free rfl) (OpT.pickF rfl (dl rfl rfl) hm.s0 c_381 hm.s1 rfl)) (Ct.met_of rfl rfl) ?_
        refine DG.mv rfl rfl rfl rfl rfl rfl ?_
        rcases bif_some h with ⟨c_382, h⟩ | ⟨c_382, h⟩
        · refine DG.off c_382 rfl rfl rfl rfl rfl rfl ?_
          refine DG.off c_382 rfl rfl rfl rfl rfl rfl ?_
          refine DG.off c_382 rfl rfl rfl rfl rfl rfl ?_
          refine DG.off c_382 rfl rfl rfl rfl rfl rfl ?_
          refine DG.off c_382 rfl rfl rfl rfl rfl rfl ?_
          refine DG.off c_382 rfl rfl rfl rfl rfl rfl ?_
          refine DG.off c_382 rfl rfl rfl rfl rfl rfl ?_
          refine DG.gone rfl rfl rfl rfl rfl rfl ?_
          refine DG.gone rfl rfl rfl rfl rfl rfl ?_
          refine DG.gone rfl rfl rfl rfl rfl rfl ?_
          refine DG.gone rfl rfl rfl rfl rfl rfl ?_
          refine DG.gone rfl rfl rfl rfl rfl rfl ?_
          refine DG.gone rfl rfl rfl rfl rfl rfl ?_
          refine DG.gone rfl rfl rfl rfl rfl rfl ?_
          refine DG.gone rfl rfl rfl rfl rfl rfl ?_
          refine DG.gone rfl rfl rfl rfl rfl rfl ?_
          refine DG.gone rfl rfl rfl rfl rfl rfl ?_
          refine DG.gone rfl rfl rfl rfl rfl rfl ?_
          refine DG.gone rfl rfl rfl rfl rfl rfl ?_
          refine DG.gone rfl rfl rfl rfl rfl rfl ?_
          refine DG.gone rfl rfl rfl rfl rfl rfl ?_
          refine DG.off c_382 rfl rfl rfl rfl rfl rfl ?_
          refine DG.step (c := ⟨some 84, .bool true, [(61, .bool (decide (v_379 > (3 : Int))))], [], []⟩) (fun t hm => One.step rfl (.free rfl) (OpT.pickT rfl (dl rfl rfl) hm.s0 c_382 rfl rfl)) (Ct.met_of rfl rfl) ?_
          refine DG.fin (s1 := ⟨[(3, .ptr b3_1 0), (4, .ptr b4_1 0), (5, .ptr b5_1 0), (7, .int .i64 x7_1_10), (54, .ptr b5_1 (0 + 1)), (55, .sl false 1 (x2.Ops.map (cI .u8))), (56, .int .i64 x7_1_10), (57, .ref [.int .u8 v_379]), (58, .int .u8 v_379), (59, .bool (decide (v_379 > (3 : Int)))), (62, .tup []), (63, .tup []), (64, .tup []), (65, .tup []), (66, .tup []), (67, .tup []), (68, .tup []), (69, .tup []), (70, .tup []), (71, .tup []), (72, .tup []), (73, .tup []), (74, .tup []), (75, .tup []), (76, .tup []), (77, .tup []), (78, .tup []), (79, .tup []), (80, .tup []), (81, .tup []), (82, .tup []), (83, .tup []), (84, .bool true)], [.box b3_1 28 ((ArrN.oc 256 .u8 x0.Split.Of) ++ (([.d (.int .i64 x0.Split.Many), .d (.sl false 2 (x0.Counts.map (Arr2.dc .i64))), .d (.sl false 4 (x0.States.map c_api_State))] : List OC))), .box b4_1 59 [.d (.sl false 1 (x1.L.map (cI .i64))), .d (.sl false 1 (x1.R.map (cI .i64))), .d (.sl false 1 (x1.Rule.map (cI .i64))), .d (.sl false 1 (x1.Next.map (cL 2 c_api_Move)))], .box b5_1 63 [.d (.int .i64 x2.To), .d (.sl false 1 (x2.Ops.map (cI .u8)))]]⟩) (ms := [0, 1, 0, 7, 15, 31, 63, 127, 255, 127, 1023, 2047, 4095, 8191, 16383, 32767, 65535, 32767, 262143, 524287, 1048575, 2097151, 4194303, 8388607, 4194303, 20971519, 4194303, 71303167, 255852543, 524287999, 1061158911, 4194303, 4282384383, 8577351679, 17179869183, 34359738367, 68719476735, 137438953471]) TryMixed rfl (by kernel_rfl) (by kernel_rfl) (by kernel_rfl) (.cons rfl (.cons rfl (.cons rfl (.cons rfl (.cons rfl (.cons rfl (.cons rfl (.cons rfl (.cons rfl (.cons rfl (.cons rfl (.cons rfl (.cons rfl (.cons rfl (.cons rfl (.cons rfl (.cons rfl (.cons rfl (.cons rfl (.cons rfl (.cons rfl (.cons rfl (.cons rfl (.cons rfl (.cons rfl (.cons rfl (.cons rfl (.cons rfl (.cons rfl (.cons rfl (.cons rfl (.cons rfl (.cons rfl (.nil _)))))))))))))))))))))))))))))))))) rfl (fun u hu => (thenS_normal (T.by_turn hu ?_)))
          refine T.condT rfl rfl ?_
          refine T.by_turn ?_ (raddleref11_move_j2_T K h)
          exact Turn.rp (.nil _) (.n _)
        · refine DG.step (c := ⟨some 62, .ptr b5_1 (0 + 1), [(5, .ptr b5_1 0), (61, .bool (decide (v_379 > (3 : Int))))], [], []⟩) (fun t hm => One.step rfl (.on rfl rfl hm.s1 c_382) (OpT.fieldPtr rfl (dl rfl rfl) Try.underlying63 rfl i29 (by decide) hm.s0 rfl)) (Ct.met_of rfl rfl) ?_
          refine DG.step (c := ⟨some 63, .sl false 1 (x2.Ops.map (cI .u8)), [(62, .ptr b5_1 (0 + 1)), (61, .bool (decide (v_379 > (3 : Int))))], [(2, .box b5_1 63 [.d (.int .i64 x2.To), .d (.sl false 1 (x2.Ops.map (cI .u8)))])], []⟩) (fun t hm => One.step rfl (.on rfl rfl hm.s1 c_382) (OpT.loadBox (i := 2) rfl (dl rfl rfl) Try.underlying29 rfl hm.s0 hm.o0 rfl rfl)) (Ct.met_of rfl rfl) ?_
          refine DG.step (c := ⟨some 64, .int .i64 x7_1_10, [(7, .int .i64 x7_1_10), (61, .bool (decide (v_379 > (3 : Int))))], [], []⟩) (fun t hm => One.step rfl (.on rfl rfl hm.s1 c_382) (OpT.move rfl (dl rfl rfl) hm.s0 rfl)) (Ct.met_of rfl rfl) ?_
          refine DG.step (c := ⟨some 65, .ref [.int .u8 v_379], [(63, .sl false 1 (x2.Ops.map (cI .u8))), (64, .int .i64 x7_1_10), (61, .bool (decide (v_379 > (3 : Int))))], [], []⟩) (fun t hm => One.step rfl (.on rfl rfl hm.s2 c_382) (OpT.indexSlM (xs := x2.Ops) (f := (cI .u8)) (v := v_379) rfl (dl rfl rfl) Try.underlying29 i5 hm.s0 hm.s1 e_380 rfl)) (Ct.met_of rfl rfl) ?_
          refine DG.step (c := ⟨some 66, .int .u8 v_379, [(65, .ref [.int .u8 v_379]), (61, .bool (decide (v_379 > (3 : Int))))], [], []⟩) (fun t hm => One.step rfl (.on rfl rfl hm.s1 c_382) (OpT.loadRef rfl (dl rfl rfl) Try.underlying5 rfl hm.s0 rfl rfl)) (Ct.met_of rfl rfl) ?_
          refine DG.step (c := ⟨some 67, .bool (v_379 != (3 : Int)), [(66, .int .u8 v_379), (61, .bool (decide (v_379 > (3 : Int))))], [], []⟩) (fun t hm => One.step rfl (.on rfl rfl hm.s1 c_382) (OpT.int2 rfl rfl (dl rfl rfl) hm.s0 rfl rfl)) (Ct.met_of rfl rfl) ?_
          refine DG.step (c := ⟨some 68, .bool (v_379 != (3 : Int)), [(67, .bool (v_379 != (3 : Int))), (61, .bool (decide (v_379 > (3 : Int))))], [], []⟩) (fun t hm => One.step rfl (.on rfl rfl hm.s1 c_382) (OpT.move rfl (dl rfl rfl) hm.s0 rfl)) (Ct.met_of rfl rfl) ?_
          rcases bif_some h with ⟨c_383, h⟩ | ⟨c_383, h⟩
          · refine DG.step (c := ⟨some 69, .ptr b4_1 (0 + 1), [(4, .ptr b4_1 0), (68, .bool (v_379 != (3 : Int)))], [], []⟩) (fun t hm => One.step rfl (.on rfl rfl hm.s1 c_383) (OpT.fieldPtr rfl (dl rfl rfl) Try.underlying59 rfl i56 (by decide) hm.s0 rfl)) (Ct.met_of rfl rfl) ?_
            refine DG.step (c := ⟨some 70, .sl false 1 (x1.R.map (cI .i64)), [(69, .ptr b4_1 (0 + 1)), (68, .bool (v_379 != (3 : Int)))], [(1, .box b4_1 59 [.d (.sl false 1 (x1.L.map (cI .i64))), .d (.sl false 1 (x1.R.map (cI .i64))), .d (.sl false 1 (x1.Rule.map (cI .i64))), .d (.sl false 1 (x1.Next.map (cL 2 c_api_Move)))])], []⟩) (fun t hm => One.step rfl (.on rfl rfl hm.s1 c_383) (OpT.loadBox (i := 1) rfl (dl rfl rfl) Try.underlying56 rfl hm.s0 hm.o0 rfl rfl)) (Ct.met_of rfl rfl) ?_
            refine DG.step (c := ⟨some 71, .ptr b3_1 (0 + 258), [(3, .ptr b3_1 0), (68, .bool (v_379 != (3 : Int)))], [], []⟩) (fun t hm => One.step rfl (.on rfl rfl hm.s1 c_383) (OpT.fieldPtr rfl (dl rfl rfl) Try.underlying28 rfl i26 (by decide) hm.s0 rfl)) (Ct.met_of rfl rfl) ?_
            refine DG.step (c := ⟨some 72, .sl false 4 (x0.States.map c_api_State), [(71, .ptr b3_1 (0 + 258)), (68, .bool (v_379 != (3 : Int)))], [(0, .box b3_1 28 ((ArrN.oc 256 .u8 x0.Split.Of) ++ (([.d (.int .i64 x0.Split.Many), .d (.sl false 2 (x0.Counts.map (Arr2.dc .i64))), .d (.sl false 4 (x0.States.map c_api_State))] : List OC))))], []⟩) (fun t hm => One.step rfl (.on rfl rfl hm.s1 c_383) (OpT.loadBox (i := 0) rfl (dl rfl rfl) Try.underlying26 rfl hm.s0 hm.o0 rfl rfl)) (Ct.met_of rfl rfl) ?_
            refine DG.step (c := ⟨some 73, .ptr b5_1 (0 + 0), [(5, .ptr b5_1 0), (68, .bool (v_379 != (3 : Int)))], [], []⟩) (fun t hm => One.step rfl (.on rfl rfl hm.s1 c_383) (OpT.fieldPtr rfl (dl rfl rfl) Try.underlying63 rfl i3 (by decide) hm.s0 rfl)) (Ct.met_of rfl rfl) ?_
            refine DG.step (c := ⟨some 74, .int .i64 x2.To, [(73, .ptr b5_1 (0 + 0)), (68, .bool (v_379 != (3 : Int)))], [(2, .box b5_1 63 [.d (.int .i64 x2.To), .d (.sl false 1 (x2.Ops.map (cI .u8)))])], []⟩) (fun t hm => One.step rfl (.on rfl rfl hm.s1 c_383) (OpT.loadBox (i := 2) rfl (dl rfl rfl) Try.underlying3 rfl hm.s0 hm.o0 rfl rfl)) (Ct.met_of rfl rfl) ?_
            obtain ⟨v_384, e_385, h⟩ := bind_some h
            refine DG.step (c := ⟨some 75, .ref [.sl false 1 (v_384.L.map (cI .i64)), .sl false 1 (v_384.R.map (cI .i64)), .sl false 1 (v_384.Rule.map (cI .i64)), .sl false 1 (v_384.Next.map (cL 2 c_api_Move))], [(72, .sl false 4 (x0.States.map c_api_State)), (74, .int .i64 x2.To), (68, .bool (v_379 != (3 : Int)))], [], []⟩) (fun t hm => One.step rfl (.on rfl rfl hm.s2 c_383) (OpT.indexSlM (xs := x0.States) (f := c_api_State) (v := v_384) rfl (dl rfl rfl) Try.underlying26 i59 hm.s0 hm.s1 e_385 rfl)) (Ct.met_of rfl rfl) ?_
            refine DG.step (c := ⟨some 76, .ref [.sl false 1 (v_384.R.map (cI .i64)), .sl false 1 (v_384.Rule.map (cI .i64)), .sl false 1 (v_384.Next.map (cL 2 c_api_Move))], [(75, .ref [.sl false 1 (v_384.L.map (cI .i64)), .sl false 1 (v_384.R.map (cI .i64)), .sl false 1 (v_384.Rule.map (cI .i64)), .sl false 1 (v_384.Next.map (cL 2 c_api_Move))]), (68, .bool (v_379 != (3 : Int)))], [], []⟩) (fun t hm => One.step rfl (.on rfl rfl hm.s1 c_383) (OpT.fieldRef rfl (dl rfl rfl) Try.underlying59 rfl i56 (by decide) hm.s0 rfl)) (Ct.met_of rfl rfl) ?_
            refine DG.step (c := ⟨some 77, .sl false 1 (v_384.R.map (cI .i64)), [(76, .ref [.sl false 1 (v_384.R.map (cI .i64)), .sl false 1 (v_384.Rule.map (cI .i64)), .sl false 1 (v_384.Next.map (cL 2 c_api_Move))]), (68, .bool (v_379 != (3 : Int)))], [], []⟩) (fun t hm => One.step rfl (.on rfl rfl hm.s1 c_383) (OpT.loadRef rfl (dl rfl rfl) Try.underlying56 rfl hm.s0 rfl rfl)) (Ct.met_of rfl rfl) ?_
            refine DG.step (c := ⟨some 78, .int .i64 x7_1_10, [(7, .int .i64 x7_1_10), (68, .bool (v_379 != (3 : Int)))], [], []⟩) (fun t hm => One.step rfl (.on rfl rfl hm.s1 c_383) (OpT.move rfl (dl rfl rfl) hm.s0 rfl)) (Ct.met_of rfl rfl) ?_
            obtain ⟨v_386, e_387, h⟩ := bind_some h
            refine DG.step (c := ⟨some 79, .ref [.int .i64 v_386], [(77, .sl false 1 (v_384.R.map (cI .i64))), (78, .int .i64 x7_1_10), (68, .bool (v_379 != (3 : Int)))], [], []⟩) (fun t hm => One.step rfl (.on rfl rfl hm.s2 c_383) (OpT.indexSlM (xs := v_384.R) (f := (cI .i64)) (v := v_386) rfl (dl rfl rfl) Try.underlying56 i3 hm.s0 hm.s1 e_387 rfl)) (Ct.met_of rfl rfl) ?_
            refine DG.step (c := ⟨some 80, .int .i64 v_386, [(79, .ref [.int .i64 v_386]), (68, .bool (v_379 != (3 : Int)))], [], []⟩) (fun t hm => One.step rfl (.on rfl rfl hm.s1 c_383) (OpT.loadRef rfl (dl rfl rfl) Try.underlying3 rfl hm.s0 rfl rfl)) (Ct.met_of rfl rfl) ?_
            obtain ⟨v_388, e_389, h⟩ := bind_some h
            refine DG.step (c := ⟨some 81, .bool v_388, [(70, .sl false 1 (x1.R.map (cI .i64))), (80, .int .i64 v_386), (68, .bool (v_379 != (3 : Int)))], [], []⟩) (fun t hm => One.step rfl (.on rfl rfl hm.s2 c_383) (OpT.callPA rfl (dl rfl rfl) Try.func84 rfl rfl (Args.cons hm.s0 (Args.cons hm.s1 Args.nil)) (CallR.nil (raddleref11_in_T K (flx0 := false) e_389)) rfl)) (Ct.met_of rfl rfl) ?_
            refine DG.step (c := ⟨some 82, .bool (!v_388), [(81, .bool v_388), (68, .bool (v_379 != (3 : Int)))], [], []⟩) (fun t hm => One.step rfl (.on rfl rfl hm.s1 c_383) (OpT.not rfl (dl rfl rfl) hm.s0 rfl)) (Ct.met_of rfl rfl) ?_
            refine DG.step (c := ⟨some 83, .bool (!v_388), [(68, .bool (v_379 != (3 : Int))), (82, .bool (!v_388)), (61, .bool (decide (v_379 > (3 : Int))))], [], []⟩) (fun t hm => One.step rfl (.on rfl rfl hm.s2 c_382) (OpT.pickT rfl (dl rfl rfl) hm.s0 c_383 hm.s1 rfl)) (Ct.met_of rfl rfl) ?_
            refine DG.step (c := ⟨some 84, .bool (!v_388), [(61, .bool (decide (v_379 > (3 : Int)))), (83, .bool (!v_388))], [], []⟩) (fun t hm => One.step rfl (.free rfl) (OpT.pickF rfl (dl rfl rfl) hm.s0 c_382 hm.s1 rfl)) (Ct.met_of rfl rfl) ?_
            refine DG.fin (s1 := ⟨[(3, .ptr b3_1 0), (4, .ptr b4_1 0), (5, .ptr b5_1 0), (7, .int .i64 x7_1_10), (54, .ptr b5_1 (0 + 1)), (55, .sl false 1 (x2.Ops.map (cI .u8))), (56, .int .i64 x7_1_10), (57, .ref [.int .u8 v_379]), (58, .int .u8 v_379), (59, .bool (decide (v_379 > (3 : Int)))), (62, .ptr b5_1 (0 + 1)), (63, .sl false 1 (x2.Ops.map (cI .u8))), (64, .int .i64 x7_1_10), (65, .ref [.int .u8 v_379]), (66, .int .u8 v_379), (67, .bool (v_379 != (3 : Int))), (68, .bool (v_379 != (3 : Int))), (69, .ptr b4_1 (0 + 1)), (70, .sl false 1 (x1.R.map (cI .i64))), (71, .ptr b3_1 (0 + 258)), (72, .sl false 4 (x0.States.map c_api_State)), (73, .ptr b5_1 (0 + 0)), (74, .int .i64 x2.To), (75, .ref [.sl false 1 (v_384.L.map (cI .i64)), .sl false 1 (v_384.R.map (cI .i64)), .sl false 1 (v_384.Rule.map (cI .i64)), .sl false 1 (v_384.Next.map (cL 2 c_api_Move))]), (76, .ref [.sl false 1 (v_384.R.map (cI .i64)), .sl false 1 (v_384.Rule.map (cI .i64)), .sl false 1 (v_384.Next.map (cL 2 c_api_Move))]), (77, .sl false 1 (v_384.R.map (cI .i64))), (78, .int .i64 x7_1_10), (79, .ref [.int .i64 v_386]), (80, .int .i64 v_386), (81, .bool v_388), (82, .bool (!v_388)), (83, .bool (!v_388)), (84, .bool (!v_388))], [.box b3_1 28 ((ArrN.oc 256 .u8 x0.Split.Of) ++ (([.d (.int .i64 x0.Split.Many), .d (.sl false 2 (x0.Counts.map (Arr2.dc .i64))), .d (.sl false 4 (x0.States.map c_api_State))] : List OC))), .box b4_1 59 [.d (.sl false 1 (x1.L.map (cI .i64))), .d (.sl false 1 (x1.R.map (cI .i64))), .d (.sl false 1 (x1.Rule.map (cI .i64))), .d (.sl false 1 (x1.Next.map (cL 2 c_api_Move)))], .box b5_1 63 [.d (.int .i64 x2.To), .d (.sl false 1 (x2.Ops.map (cI .u8)))]]⟩) (ms := [0, 1, 0, 7, 15, 31, 63, 127, 255, 127, 1023, 2047, 4095, 8191, 16383, 32767, 65535, 32767, 262143, 524287, 1048575, 2097151, 4194303, 8388607, 4194303, 20971519, 4194303, 71303167, 255852543, 524287999, 1061158911, 4194303, 4282384383, 8577351679, 17179869183, 34359738367, 68719476735, 137438953471]) TryMixed rfl (by kernel_rfl) (by kernel_rfl) (by kernel_rfl) (.cons rfl (.cons rfl (.cons rfl (.cons rfl (.cons rfl (.cons rfl (.cons rfl (.cons rfl (.cons rfl (.cons rfl (.cons rfl (.cons rfl (.cons rfl (.cons rfl (.cons rfl (.cons rfl (.cons rfl (.cons rfl (.cons rfl (.cons rfl (.cons rfl (.cons rfl (.cons rfl (.cons rfl (.cons rfl (.cons rfl (.cons rfl (.cons rfl (.cons rfl (.cons rfl (.cons rfl (.cons rfl (.cons rfl (.nil _)))))))))))))))))))))))))))))))))) rfl (fun u hu => (thenS_normal (T.by_turn hu ?_)))
            rcases bif_some h with ⟨c_390, h⟩ | ⟨c_390, h⟩
            · refine T.condT rfl c_390 ?_
              refine T.by_turn ?_ (raddleref11_move_j2_T K h)
              exact Turn.rp (.nil _) (.n _)
            · refine T.condF rfl c_390 ?_
              refine T.skip (inBlock_normal (thenS_normal ?_))
              refine T.regionL ?_
              refine mv rfl rfl rfl rfl rfl ?_
              refine sp rfl (OpT.int2 rfl rfl (dl rfl rfl) rfl rfl ?_)
              refine asg rfl rfl rfl rfl rfl ?_
              refine TL'.nil (thenS_normal ?_)
              refine TL.by_turn ?_ (ih (IntKind.i64.wrap (x7_1_10 + (1 : Int))) x0 x1 x2 b3_1 b4_1 b5_1 h)
              exact Turn.rp (.cons rfl (.cons rfl (.cons rfl (.cons rfl (.nil _))))) (.c .z (.c .z (.c .z (.n _))))
          · refine DG.off c_383 rfl rfl rfl rfl rfl rfl ?_
            refine DG.off c_383 rfl rfl rfl rfl rfl rfl ?_
            refine DG.off c_383 rfl rfl rfl rfl rfl rfl ?_
            refine DG.off c_383 rfl rfl rfl rfl rfl rfl ?_
            refine DG.off c_383 rfl rfl rfl rfl rfl rfl ?_
            refine DG.off c_383 rfl rfl rfl rfl rfl rfl ?_
            refine DG.off c_383 rfl rfl rfl rfl rfl rfl ?_
            refine DG.off c_383 rfl rfl rfl rfl rfl rfl ?_
            refine DG.off c_383 rfl rfl rfl rfl rfl rfl ?_
            refine DG.off c_383 rfl rfl rfl rfl rfl rfl ?_
            refine DG.off c_383 rfl rfl rfl rfl rfl rfl ?_
            refine DG.off c_383 rfl rfl rfl rfl rfl rfl ?_
            refine DG.off c_383 rfl rfl rfl rfl rfl rfl ?_
            refine DG.off c_383 rfl rfl rfl rfl rfl rfl ?_
            refine DG.step (c := ⟨some 83, .bool false, [(68, .bool (v_379 != (3 : Int))), (61, .bool (decide (v_379 > (3 : Int))))], [], []⟩) (fun t hm => One.step rfl (.on rfl rfl hm.s1 c_382) (OpT.pickF rfl (dl rfl rfl) hm.s0 c_383 rfl rfl)) (Ct.met_of rfl rfl) ?_
            refine DG.step (c := ⟨some 84, .bool false, [(61, .bool (decide (v_379 > (3 : Int)))), (83, .bool false)], [], []⟩) (fun t hm => One.step rfl (.free rfl) (OpT.pickF rfl (dl rfl rfl) hm.s0 c_382 hm.s1 rfl)) (Ct.met_of rfl rfl) ?_
            refine DG.fin (s1 := ⟨[(3, .ptr b3_1 0), (4, .ptr b4_1 0), (5, .ptr b5_1 0), (7, .int .i64 x7_1_10), (54, .ptr b5_1 (0 + 1)), (55, .sl false 1 (x2.Ops.map (cI .u8))), (56, .int .i64 x7_1_10), (57, .ref [.int .u8 v_379]), (58, .int .u8 v_379), (59, .bool (decide (v_379 > (3 : Int)))), (62, .ptr b5_1 (0 + 1)), (63, .sl false 1 (x2.Ops.map (cI .u8))), (64, .int .i64 x7_1_10), (65, .ref [.int .u8 v_379]), (66, .int .u8 v_379), (67, .bool (v_379 != (3 : Int))), (68, .bool (v_379 != (3 : Int))), (69, .tup []), (70, .tup []), (71, .tup []), (72, .tup []), (73, .tup []), (74, .tup []), (75, .tup []), (76, .tup []), (77, .tup []), (78, .tup []), (79, .tup []), (80, .tup []), (81, .tup []), (82, .tup []), (83, .bool false), (84, .bool false)], [.box b3_1 28 ((ArrN.oc 256 .u8 x0.Split.Of) ++ (([.d (.int .i64 x0.Split.Many), .d (.sl false 2 (x0.Counts.map (Arr2.dc .i64))), .d (.sl false 4 (x0.States.map c_api_State))] : List OC))), .box b4_1 59 [.d (.sl false 1 (x1.L.map (cI .i64))), .d (.sl false 1 (x1.R.map (cI .i64))), .d (.sl false 1 (x1.Rule.map (cI .i64))), .d (.sl false 1 (x1.Next.map (cL 2 c_api_Move)))], .box b5_1 63 [.d (.int .i64 x2.To), .d (.sl false 1 (x2.Ops.map (cI .u8)))]]⟩) (ms := [0, 1, 0, 7, 15, 31, 63, 127, 255, 127, 1023, 2047, 4095, 8191, 16383, 32767, 65535, 32767, 262143, 524287, 1048575, 2097151, 4194303, 8388607, 4194303, 20971519, 4194303, 71303167, 255852543, 524287999, 1061158911, 4194303, 4282384383, 8577351679, 17179869183, 34359738367, 68719476735, 137438953471]) TryMixed rfl (by kernel_rfl) (by kernel_rfl) (by kernel_rfl) (.cons rfl (.cons rfl (.cons rfl (.cons rfl (.cons rfl (.cons rfl (.cons rfl (.cons rfl (.cons rfl (.cons rfl (.cons rfl (.cons rfl (.cons rfl (.cons rfl (.cons rfl (.cons rfl (.cons rfl (.cons rfl (.cons rfl (.cons rfl (.cons rfl (.cons rfl (.cons rfl (.cons rfl (.cons rfl (.cons rfl (.cons rfl (.cons rfl (.cons rfl (.cons rfl (.cons rfl (.cons rfl (.cons rfl (.nil _)))))))))))))))))))))))))))))))))) rfl (fun u hu => (thenS_normal (T.by_turn hu ?_)))
            refine T.condF rfl rfl ?_
            refine T.skip (inBlock_normal (thenS_normal ?_))
            refine T.regionL ?_
            refine mv rfl rfl rfl rfl rfl ?_
            refine sp rfl (OpT.int2 rfl rfl (dl rfl rfl) rfl rfl ?_)
            refine asg rfl rfl rfl rfl rfl ?_
            refine TL'.nil (thenS_normal ?_)
            refine TL.by_turn ?_ (ih (IntKind.i64.wrap (x7_1_10 + (1 : Int))) x0 x1 x2 b3_1 b4_1 b5_1 h)
            exact Turn.rp (.cons rfl (.cons rfl (.cons rfl (.cons rfl (.nil _))))) (.c .z (.c .z (.c .z (.n _))))
    · refine T.condF rfl c_366 ?_
      refine T.exit (thenS_exit (thenS_exit (inBlock_exit (thenS_normal ?_))))
      refine T.seq ?_
      refine T.regionL ?_
      refine asg rfl rfl rfl rfl rfl ?_
      refine TL'.nil (thenS_normal ?_)
      refine T.ret ?_
      exact Fin.done (.cons _ _ _ _ (.tmp 6 _ rfl) .nil) (by cases h; exact ⟨rfl, rfl⟩)

theorem raddleref11_move_T (K : Nat) {x0 : api_Auto} {x1 : api_State} {x2 : api_Move} {r : Bool} (h : raddleref11_move K x0 x1 x2 = some r) : CallR Try.prog 62 [.agg ((ArrN.dc 256 .u8 x0.Split.Of) ++ (([.int .i64 x0.Split.Many, .sl false 2 (x0.Counts.map (Arr2.dc .i64)), .sl false 4 (x0.States.map c_api_State)] : List DC))), .agg [.sl false 1 (x1.L.map (cI .i64)), .sl false 1 (x1.R.map (cI .i64)), .sl false 1 (x1.Rule.map (cI .i64)), .sl false 1 (x1.Next.map (cL 2 c_api_Move))], .agg [.int .i64 x2.To, .sl false 1 (x2.Ops.map (cI .u8))]] [] (.bool r) := by
  refine CallT.intro Try.func62 rfl (Nat.le_of_ble_eq_true rfl) ?_
  show T Try.prog 85 (Code.at [] (codeOf Try.f62)) ⟨paramSlots 0 [.agg ((ArrN.dc 256 .u8 x0.Split.Of) ++ (([.int .i64 x0.Split.Many, .sl false 2 (x0.Counts.map (Arr2.dc .i64)), .sl false 4 (x0.States.map c_api_State)] : List DC))), .agg [.sl false 1 (x1.L.map (cI .i64)), .sl false 1 (x1.R.map (cI .i64)), .sl false 1 (x1.Rule.map (cI .i64)), .sl false 1 (x1.Next.map (cL 2 c_api_Move))], .agg [.int .i64 x2.To, .sl false 1 (x2.Ops.map (cI .u8))]], []⟩ (raddleref11_move_q r)
  unfold raddleref11_move at h
  refine T.seq ?_
  refine T.regionL ?_
  refine sp rfl (OpT.boxAgg rfl (dl rfl rfl) rfl (fun b_352 => ?_))
  refine sp rfl (OpT.boxAgg rfl (dl rfl rfl) rfl (fun b_353 => ?_))
  refine sp rfl (OpT.boxAgg rfl (dl rfl rfl) rfl (fun b_354 => ?_))
  refine asg rfl rfl rfl rfl rfl ?_
  refine TL'.nil (thenS_normal ?_)
  refine T.seq ?_
  refine T.seq ?_
  refine T.regionL ?_
  refine sp rfl (OpT.fieldPtr rfl (dl rfl rfl) Try.underlying63 rfl i3 (by decide) rfl ?_)
  refine sp rfl (OpT.loadBox (i := 0) rfl (dl rfl rfl) Try.underlying3 rfl rfl rfl rfl ?_)
  refine sp rfl (OpT.int2 rfl rfl (dl rfl rfl) rfl rfl ?_)
  refine TL'.nil (thenS_normal ?_)
  rcases bif_some h with ⟨c_355, h⟩ | ⟨c_355, h⟩
  · refine T.condT rfl c_355 ?_
    refine T.seq ?_
    refine T.regionL ?_
    refine sp rfl (OpT.fieldPtr rfl (dl rfl rfl) Try.underlying63 rfl i29 (by decide) rfl ?_)
    refine sp rfl (OpT.loadBox (i := 0) rfl (dl rfl rfl) Try.underlying29 rfl rfl rfl rfl ?_)
    refine sp rfl (OpT.lenSlM (xs := x2.Ops) (f := (cI .u8)) rfl (dl rfl rfl) Try.underlying29 rfl ?_)
    refine sp rfl (OpT.int2 rfl rfl (dl rfl rfl) rfl rfl ?_)
    refine asg rfl rfl rfl rfl rfl ?_
    refine TL'.nil (thenS_normal ?_)
    refine T.ret (thenS_ret ?_)
    exact Fin.done (.cons _ _ _ _ (.tmp 6 _ rfl) .nil) (by cases h; exact ⟨rfl, rfl⟩)
  · refine T.condF rfl c_355 ?_
    refine T.skip (thenS_normal ?_)
    refine T.seq ?_
    refine T.seq ?_
    refine DG.start ?_
    refine DG.step (c := ⟨some 15, .ptr b_354 (0 + 0), [(5, .ptr b_354 0)], [], []⟩) (fun t hm => One.step rfl (.free rfl) (OpT.fieldPtr rfl (dl rfl rfl) Try.underlying63 rfl i3 (by decide) hm.s0 rfl)) (Ct.met_of rfl rfl) ?_
    refine DG.step (c := ⟨some 16, .int .i64 x2.To, [(15, .ptr b_354 (0 + 0))], [(0, .box b_354 63 [.d (.int .i64 x2.To), .d (.sl false 1 (x2.Ops.map (cI .u8)))])], []⟩) (fun t hm => One.step rfl (.free rfl) (OpT.loadBox (i := 0) rfl (dl rfl rfl) Try.underlying3 rfl hm.s0 hm.o0 rfl rfl)) (Ct.met_of rfl rfl) ?_
    refine DG.step (c := ⟨some 17, .bool (decide (x2.To < (1 : Int))), [(16, .int .i64 x2.To)], [], []⟩) (fun t hm => One.step rfl (.free rfl) (OpT.int2 rfl rfl (dl rfl rfl) hm.s0 rfl rfl)) (Ct.met_of rfl rfl) ?_
    refine DG.mv rfl rfl rfl rfl rfl rfl ?_
    rcases bif_some h with ⟨c_361, h⟩ | ⟨c_361, h⟩
    · refine DG.off c_361 rfl rfl rfl rfl rfl rfl ?_
      refine DG.off c_361 rfl rfl rfl rfl rfl rfl ?_
      refine DG.off c_361 rfl rfl rfl rfl rfl rfl ?_
      refine DG.off c_361 rfl rfl rfl rfl rfl rfl ?_
      refine DG.off c_361 rfl rfl rfl rfl rfl rfl ?_
      refine DG.off c_361 rfl rfl rfl rfl rfl rfl ?_
      refine DG.step (c := ⟨some 25, .bool true, [(18, .bool (decide (x2.To < (1 : Int))))], [], []⟩) (fun t hm => One.step rfl (.free rfl) (OpT.pickT rfl (dl rfl rfl) hm.s0 c_361 rfl rfl)) (Ct.met_of rfl rfl) ?_
      refine DG.mv rfl rfl rfl rfl rfl rfl ?_
      refine DG.off rfl rfl rfl rfl rfl rfl rfl ?_
      refine DG.off rfl rfl rfl rfl rfl rfl rfl ?_
      refine DG.off rfl rfl rfl rfl rfl rfl rfl ?_
      refine DG.off rfl rfl rfl rfl rfl rfl rfl ?_
      refine DG.off rfl rfl rfl rfl rfl rfl rfl ?_
      refine DG.off rfl rfl rfl rfl rfl rfl rfl ?_
      refine DG.off rfl rfl rfl rfl rfl rfl rfl ?_
      refine DG.off rfl rfl rfl rfl rfl rfl rfl ?_
      refine DG.off rfl rfl rfl rfl rfl rfl rfl ?_
      refine DG.off rfl rfl rfl rfl rfl rfl rfl ?_
      refine DG.off rfl rfl rfl rfl rfl rfl rfl ?_
      refine DG.off rfl rfl rfl rfl rfl rfl rfl ?_
      refine DG.step (c := ⟨some 39, .bool true, [(26, .bool true)], [], []⟩) (fun t hm => One.step rfl (.free rfl) (OpT.pickT rfl (dl rfl rfl) hm.s0 rfl rfl rfl)) (Ct.met_of rfl rfl) ?_
      refine DG.fin (s1 := ⟨[(3, .ptr b_352 0), (4, .ptr b_353 0), (5, .ptr b_354 0), (39, .bool true)], [.box b_354 63 [.d (.int .i64 x2.To), .d (.sl false 1 (x2.Ops.map (cI .u8)))], .box b_353 59 [.d (.sl false 1 (x1.L.map (cI .i64))), .d (.sl false 1 (x1.R.map (cI .i64))), .d (.sl false 1 (x1.Rule.map (cI .i64))), .d (.sl false 1 (x1.Next.map (cL 2 c_api_Move)))], .box b_352 28 ((ArrN.oc 256 .u8 x0.Split.Of) ++ (([.d (.int .i64 x0.Split.Many), .d (.sl false 2 (x0.Counts.map (Arr2.dc .i64))), .d (.sl false 4 (x0.States.map c_api_State))] : List OC)))]⟩) (ms := [0, 1, 3, 7, 15, 31, 15, 79, 207, 511, 1023, 2047, 4095, 8191, 16383, 4095, 36863, 4095, 135167, 495615, 1019903, 2068479, 4165631, 8388607, 16777215]) TryMixed rfl (by kernel_rfl) (by kernel_rfl) (by kernel_rfl) (.cons rfl (.cons rfl (.cons rfl (.cons rfl (.nil _))))) rfl (fun u hu => (thenS_normal (T.by_turn hu ?_)))
      refine T.condT rfl rfl ?_
      refine T.by_turn ?_ (raddleref11_move_j0_T K h)
      exact Turn.rp (.nil _) (.n _)
    · refine DG.step (c := ⟨some 19, .ptr b_354 (0 + 0), [(5, .ptr b_354 0), (18, .bool (decide (x2.To < (1 : Int))))], [], []⟩) (fun t hm => One.step rfl (.on rfl rfl hm.s1 c_361) (OpT.fieldPtr rfl (dl rfl rfl) Try.underlying63 rfl i3 (by decide) hm.s0 rfl)) (Ct.met_of rfl rfl) ?_
      refine DG.step (c := ⟨some 20, .int .i64 x2.To, [(19, .ptr b_354 (0 + 0)), (18, .bool (decide (x2.To < (1 : Int))))], [(0, .box b_354 63 [.d (.int .i64 x2.To), .d (.sl false 1 (x2.Ops.map (cI .u8)))])], []⟩) (fun t hm => One.step rfl (.on rfl rfl hm.s1 c_361) (OpT.loadBox (i := 0) rfl (dl rfl rfl) Try.underlying3 rfl hm.s0 hm.o0 rfl rfl)) (Ct.met_of rfl rfl) ?_
      refine DG.step (c := ⟨some 21, .ptr b_352 (0 + 258), [(3, .ptr b_352 0), (18, .bool (decide (x2.To < (1 : Int))))], [], []⟩) (fun t hm => One.step rfl (.on rfl rfl hm.s1 c_361) (OpT.fieldPtr rfl (dl rfl rfl) Try.underlying28 rfl i26 (by decide) hm.s0 rfl)) (Ct.met_of rfl rfl) ?_
      refine DG.step (c := ⟨some 22, .sl false 4 (x0.States.map c_api_State), [(21, .ptr b_352 (0 + 258)), (18, .bool (decide (x2.To < (1 : Int))))], [(2, .box b_352 28 ((ArrN.oc 256 .u8 x0.Split.Of) ++ (([.d (.int .i64 x0.Split.Many), .d (.sl false 2 (x0.Counts.map (Arr2.dc .i64))), .d (.sl false 4 (x0.States.map c_api_State))] : List OC))))], []⟩) (fun t hm => One.step rfl (.on rfl rfl hm.s1 c_361) (OpT.loadBox (i := 2) rfl (dl rfl rfl) Try.underlying26 rfl hm.s0 hm.o0 rfl rfl)) (Ct.met_of rfl rfl) ?_
      refine DG.step (c := ⟨some 23, .int .i64 (x0.States.length : Int), [(22, .sl false 4 (x0.States.map c_api_State)), (18, .bool (decide (x2.To < (1 : Int))))], [], []⟩) (fun t hm => One.step rfl (.on rfl rfl hm.s1 c_361) (OpT.lenSlM (xs := x0.States) (f := c_api_State) rfl (dl rfl rfl) Try.underlying26 hm.s0 rfl)) (Ct.met_of rfl rfl) ?_
      refine DG.step (c := ⟨some 24, .bool (decide (x2.To ≥ (x0.States.length : Int))), [(20, .int .i64 x2.To), (23, .int .i64 (x0.States.length : Int)), (18, .bool (decide (x2.To < (1 : Int))))], [], []⟩) (fun t hm => One.step rfl (.on rfl rfl hm.s2 c_361) (OpT.int2 rfl rfl (dl rfl rfl) hm.s0 hm.s1 rfl)) (Ct.met_of rfl rfl) ?_
      refine DG.step (c := ⟨some 25, .bool (decide (x2.To ≥ (x0.States.length : Int))), [(18, .bool (decide (x2.To < (1 : Int)))), (24, .bool (decide (x2.To ≥ (x0.States.length : Int))))], [], []⟩) (fun t hm => One.step rfl (.free rfl) (OpT.pickF rfl (dl rfl rfl) hm.s0 c_361 hm.s1 rfl)) (Ct.met_of rfl rfl) ?_
      refine DG.mv rfl rfl rfl rfl rfl rfl ?_
      rcases bif_some h with ⟨c_362, h⟩ | ⟨c_362, h⟩
      · refine DG.off c_362 rfl rfl rfl rfl rfl rfl ?_
        refine DG.off c_362 rfl rfl rfl rfl rfl rfl ?_
        refine DG.off c_362 rfl rfl rfl rfl rfl rfl ?_
        refine DG.off c_362 rfl rfl rfl rfl rfl rfl ?_
        refine DG.off c_362 rfl rfl rfl rfl rfl rfl ?_
        refine DG.off c_362 rfl rfl rfl rfl rfl rfl ?_
        refine DG.off c_362 rfl rfl rfl rfl rfl rfl ?_
        refine DG.off c_362 rfl rfl rfl rfl rfl rfl ?_
        refine DG.off c_362 rfl rfl rfl rfl rfl rfl ?_
        refine DG.off c_362 rfl rfl rfl rfl rfl rfl ?_
        refine DG.off c_362 rfl rfl rfl rfl rfl rfl ?_
        refine DG.off c_362 rfl rfl rfl rfl rfl rfl ?_
        refine DG.step (c := ⟨some 39, .bool true, [(26, .bool (decide (x2.To ≥ (x0.States.length : Int))))], [], []⟩) (fun t hm => One.step rfl (.free rfl) (OpT.pickT rfl (dl rfl rfl) hm.s0 c_362 rfl rfl)) (Ct.met_of rfl rfl) ?_
        refine DG.fin (s1 := ⟨[(3, .ptr b_352 0), (4, .ptr b_353 0), (5, .ptr b_354 0), (39, .bool true)], [.box b_354 63 [.d (.int .i64 x2.To), .d (.sl false 1 (x2.Ops.map (cI .u8)))], .box b_353 59 [.d (.sl false 1 (x1.L.map (cI .i64))), .d (.sl false 1 (x1.R.map (cI .i64))), .d (.sl false 1 (x1.Rule.map (cI .i64))), .d (.sl false 1 (x1.Next.map (cL 2 c_api_Move)))], .box b_352 28 ((ArrN.oc 256 .u8 x0.Split.Of) ++ (([.d (.int .i64 x0.Split.Many), .d (.sl false 2 (x0.Counts.map (Arr2.dc .i64))), .d (.sl false 4 (x0.States.map c_api_State))] : List OC)))]⟩) (ms := [0, 1, 3, 7, 15, 31, 15, 79, 207, 511, 1023, 2047, 4095, 8191, 16383, 4095, 36863, 4095, 135167, 495615, 1019903, 2068479, 4165631, 8388607, 16777215]) TryMixed rfl (by kernel_rfl) (by kernel_rfl) (by kernel_rfl) (.cons rfl (.cons rfl (.cons rfl (.cons rfl (.nil _))))) rfl (fun u hu => (thenS_normal (T.by_turn hu ?_)))
        refine T.condT rfl rfl ?_
        refine T.by_turn ?_ (raddleref11_move_j0_T K h)
        exact Turn.rp (.nil _) (.n _)
      · refine DG.step (c := ⟨some 27, .ptr b_354 (0 + 1), [(5, .ptr b_354 0), (26, .bool (decide (x2.To ≥ (x0.States.length : Int))))], [], []⟩) (fun t hm => One.step rfl (.on rfl rfl hm.s1 c_362) (OpT.fieldPtr rfl (dl rfl rfl) Try.underlying63 rfl i29 (by decide) hm.s0 rfl)) (Ct.met_of rfl rfl) ?_
        refine DG.step (c := ⟨some 28, .sl false 1 (x2.Ops.map (cI .u8)), [(27, .ptr b_354 (0 + 1)), (26, .bool (decide (x2.To ≥ (x0.States.length : Int))))], [(0, .box b_354 63 [.d (.int .i64 x2.To), .d (.sl false 1 (x2.Ops.map (cI .u8)))])], []⟩) (fun t hm => One.step rfl (.on rfl rfl hm.s1 c_362) (OpT.loadBox (i := 0) rfl (dl rfl rfl) Try.underlying29 rfl hm.s0 hm.o0 rfl rfl)) (Ct.met_of rfl rfl) ?_
        refine DG.step (c := ⟨some 29, .int .i64 (x2.Ops.length : Int), [(28, .sl false 1 (x2.Ops.map (cI .u8))), (26, .bool (decide (x2.To ≥ (x0.States.length : Int))))], [], []⟩) (fun t hm => One.step rfl (.on rfl rfl hm.s1 c_362) (OpT.lenSlM (xs := x2.Ops) (f := (cI .u8)) rfl (dl rfl rfl) Try.underlying29 hm.s0 rfl)) (Ct.met_of rfl rfl) ?_
        refine DG.step (c := ⟨some 30, .ptr b_352 (0 + 258), [(3, .ptr b_352 0), (26, .bool (decide (x2.To ≥ (x0.States.length : Int))))], [], []⟩) (fun t hm => One.step rfl (.on rfl rfl hm.s1 c_362) (OpT.fieldPtr rfl (dl rfl rfl) Try.underlying28 rfl i26 (by decide) hm.s0 rfl)) (Ct.met_of rfl rfl) ?_
        refine DG.step (c := ⟨some 31, .sl false 4 (x0.States.map c_api_State), [(30, .ptr b_352 (0 + 258)), (26, .bool (decide (x2.To ≥ (x0.States.length : Int))))], [(2, .box b_352 28 ((ArrN.oc 256 .u8 x0.Split.Of) ++ (([.d (.int .i64 x0.Split.Many), .d (.sl false 2 (x0.Counts.map (Arr2.dc .i64))), .d (.sl false 4 (x0.States.map c_api_State))] : List OC))))], []⟩) (fun t hm => One.step rfl (.on rfl rfl hm.s1 c_362) (OpT.loadBox (i := 2) rfl (dl rfl rfl) Try.underlying26 rfl hm.s0 hm.o0 rfl rfl)) (Ct.met_of rfl rfl) ?_
        refine DG.step (c := ⟨some 32, .ptr b_354 (0 + 0), [(5, .ptr b_354 0), (26, .bool (decide (x2.To ≥ (x0.States.length : Int))))], [], []⟩) (fun t hm => One.step rfl (.on rfl rfl hm.s1 c_362) (OpT.fieldPtr rfl (dl rfl rfl) Try.underlying63 rfl i3 (by decide) hm.s0 rfl)) (Ct.met_of rfl rfl) ?_
        refine DG.step (c := ⟨some 33, .int .i64 x2.To, [(32, .ptr b_354 (0 + 0)), (26, .bool (decide (x2.To ≥ (x0.States.length : Int))))], [(0, .box b_354 63 [.d (.int .i64 x2.To), .d (.sl false 1 (x2.Ops.map (cI .u8)))])], []⟩) (fun t hm => One.step rfl (.on rfl rfl hm.s1 c_362) (OpT.loadBox (i := 0) rfl (dl rfl rfl) Try.underlying3 rfl hm.s0 hm.o0 rfl rfl)) (Ct.met_of rfl rfl) ?_
        obtain ⟨v_363, e_364, h⟩ := bind_some h
        refine DG.step (c := ⟨some 34, .ref [.sl false 1 (v_363.L.map (cI .i64)), .sl false 1 (v_363.R.map (cI .i64)), .sl false 1 (v_363.Rule.map (cI .i64)), .sl false 1 (v_363.Next.map (cL 2 c_api_Move))], [(31, .sl false 4 (x0.States.map c_api_State)), (33, .int .i64 x2.To), (26, .bool (decide (x2.To ≥ (x0.States.length : Int))))], [], []⟩) (fun t hm => One.step rfl (.on rfl rfl hm.s2 c_362) (OpT.indexSlM (xs := x0.States) (f := c_api_State) (v := v_363) rfl (dl rfl rfl) Try.underlying26 i59 hm.s0 hm.s1 e_364 rfl)) (Ct.met_of rfl rfl) ?_
        refine DG.step (c := ⟨some 35, .ref [.sl false 1 (v_363.R.map (cI .i64)), .sl false 1 (v_363.Rule.map (cI .i64)), .sl false 1 (v_363.Next.map (cL 2 c_api_Move))], [(34, .ref [.sl false 1 (v_363.L.map (cI .i64)), .sl false 1 (v_363.R.map (cI .i64)), .sl false 1 (v_363.Rule.map (cI .i64)), .sl false 1 (v_363.Next.map (cL 2 c_api_Move))]), (26, .bool (decide (x2.To ≥ (x0.States.length : Int))))], [], []⟩) (fun t hm => One.step rfl (.on rfl rfl hm.s1 c_362) (OpT.fieldRef rfl (dl rfl rfl) Try.underlying59 rfl i56 (by decide) hm.s0 rfl)) (Ct.met_of rfl rfl) ?_
        refine DG.step (c := ⟨some 36, .sl false 1 (v_363.R.map (cI .i64)), [(35, .ref [.sl false 1 (v_363.R.map (cI .i64)), .sl false 1 (v_363.Rule.map (cI .i64)), .sl false 1 (v_363.Next.map (cL 2 c_api_Move))]), (26, .bool (decide (x2.To ≥ (x0.States.length : Int))))], [], []⟩) (fun t hm => One.step rfl (.on rfl rfl hm.s1 c_362) (OpT.loadRef rfl (dl rfl rfl) Try.underlying56 rfl hm.s0 rfl rfl)) (Ct.met_of rfl rfl) ?_
        refine DG.step (c := ⟨some 37, .int .i64 (v_363.R.length : Int), [(36, .sl false 1 (v_363.R.map (cI .i64))), (26, .bool (decide (x2.To ≥ (x0.States.length : Int))))], [], []⟩) (fun t hm => One.step rfl (.on rfl rfl hm.s1 c_362) (OpT.lenSlM (xs := v_363.R) (f := (cI .i64)) rfl (dl rfl rfl) Try.underlying56 hm.s0 rfl)) (Ct.met_of rfl rfl) ?_
        refine DG.step (c := ⟨some 38, .bool ((x2.Ops.length : Int) != (v_363.R.length : Int)), [(29, .int .i64 (x2.Ops.length : Int)), (37, .int .i64 (v_363.R.length : Int)), (26, .bool (decide (x2.To ≥ (x0.States.length : Int))))], [], []⟩) (fun t hm => One.step rfl (.on rfl rfl hm.s2 c_362) (OpT.int2 rfl rfl (dl rfl rfl) hm.s0 hm.s1 rfl)) (Ct.met_of rfl rfl) ?_
        refine DG.step (c := ⟨some 39, .bool ((x2.Ops.length : Int) != (v_363.R.length : Int)), [(26, .bool (decide (x2.To ≥ (x0.States.length : Int)))), (38, .bool ((x2.Ops.length : Int) != (v_363.R.length : Int)))], [], []⟩) (fun t hm => One.step rfl (.free rfl) (OpT.pickF rfl (dl rfl rfl) hm.s0 c_362 hm.s1 rfl)) (Ct.met_of rfl rfl) ?_
        refine DG.fin (s1 := ⟨[(3, .ptr b_352 0), (4, .ptr b_353 0), (5, .ptr b_354 0), (39, .bool ((x2.Ops.length : Int) != (v_363.R.length : Int)))], [.box b_354 63 [.d (.int .i64 x2.To), .d (.sl false 1 (x2.Ops.map (cI .u8)))], .box b_353 59 [.d (.sl false 1 (x1.L.map (cI .i64))), .d (.sl false 1 (x1.R.map (cI .i64))), .d (.sl false 1 (x1.Rule.map (cI .i64))), .d (.sl false 1 (x1.Next.map (cL 2 c_api_Move)))], .box b_352 28 ((ArrN.oc 256 .u8 x0.Split.Of) ++ (([.d (.int .i64 x0.Split.Many), .d (.sl false 2 (x0.Counts.map (Arr2.dc .i64))), .d (.sl false 4 (x0.States.map c_api_State))] : List OC)))]⟩) (ms := [0, 1, 3, 7, 15, 31, 15, 79, 207, 511, 1023, 2047, 4095, 8191, 16383, 4095, 36863, 4095, 135167, 495615, 1019903, 2068479, 4165631, 8388607, 16777215]) TryMixed rfl (by kernel_rfl) (by kernel_rfl) (by kernel_rfl) (.cons rfl (.cons rfl (.cons rfl (.cons rfl (.nil _))))) rfl (fun u hu => (thenS_normal (T.by_turn hu ?_)))
        rcases bif_some h with ⟨c_365, h⟩ | ⟨c_365, h⟩
        · refine T.condT rfl c_365 ?_
          refine T.by_turn ?_ (raddleref11_move_j0_T K h)
          exact Turn.rp (.nil _) (.n _)
        · refine T.condF rfl c_365 ?_
          refine T.skip (thenS_normal ?_)
          refine T.seq ?_
          refine T.seq ?_
          refine T.regionL ?_
          refine asg rfl rfl rfl rfl rfl ?_
          refine TL'.nil (thenS_normal ?_)
          refine T.block ?_
          refine T.loop ?_
          refine TL.by_turn ?_ (raddleref11_move_l1_T K K (0 : Int) x0 x1 x2 b_352 b_353 b_354 h)
          exact Turn.rp (.cons rfl (.cons rfl (.cons rfl (.cons rfl (.nil _))))) (.c (.s (.s .z)) (.c (.s .z) (.c .z (.n _))))

abbrev raddleref11_state_q (r : Bool) : Exit → St → Prop := retS Try.prog Try.f42 (fun y t => y = (.bool r) ∧ t = [])

abbrev raddleref11_state_qs111 (r : Bool) : Exit → St → Prop := thenS (fun s' => T Try.prog 96 (Code.at [1, 1, 1] (codeOf Try.f42)) s' ((raddleref11_state_q r))) ((raddleref11_state_q r))

abbrev raddleref11_state_qs1111 (r : Bool) : Exit → St → Prop := thenS (fun s' => T Try.prog 96 (Code.at [1, 1, 1, 1] (codeOf Try.f42)) s' ((raddleref11_state_q r))) ((raddleref11_state_q r))

abbrev raddleref11_state_qb0x1111 (r : Bool) : Exit → St → Prop := inBlockS 0 ((raddleref11_state_qs1111 r))

abbrev raddleref11_state_ql111010 (r : Bool) : Exit → St → Prop := thenS (fun s' => TL Try.prog 96 (Code.at [1, 1, 1, 0, 1, 0, 0] (codeOf Try.f42)) s' ((raddleref11_state_qb0x1111 r))) ((raddleref11_state_qb0x1111 r))

abbrev raddleref11_state_qs111010011 (r : Bool) : Exit → St → Prop := thenS (fun s' => T Try.prog 96 (Code.at [1, 1, 1, 0, 1, 0, 0, 1, 1] (codeOf Try.f42)) s' ((raddleref11_state_ql111010 r))) ((raddleref11_state_ql111010 r))

abbrev raddleref11_state_qb1_0x111010011 (r : Bool) : Exit → St → Prop := inBlockS 1 ((raddleref11_state_qs111010011 r))

abbrev raddleref11_state_qs11101001001 (r : Bool) : Exit → St → Prop := thenS (fun s' => T Try.prog 96 (Code.at [1, 1, 1, 0, 1, 0, 0, 1, 0, 0, 1] (codeOf Try.f42)) s' ((raddleref11_state_qb1_0x111010011 r))) ((raddleref11_state_qb1_0x111010011 r))

abbrev raddleref11_state_qb2_1_0x111010011 (r : Bool) : Exit → St → Prop := inBlockS 2 ((raddleref11_state_qb1_0x111010011 r))

theorem raddleref11_state_j0_T {r : Bool} (K : Nat) (h : raddleref11_state_j0 K = some r) : T Try.prog 96 (Code.at [1, 1, 0, 1, 0] (codeOf Try.f42)) ⟨[], []⟩ (raddleref11_state_qs111 r) := by
  unfold raddleref11_state_j0 at h
  refine T.seq ?_
  refine T.regionL ?_
  refine asg rfl rfl rfl rfl rfl ?_
  refine TL'.nil (thenS_normal ?_)
  refine T.ret (thenS_ret ?_)
  exact Fin.done (.cons _ _ _ _ (.tmp 4 _ rfl) .nil) (by cases h; exact ⟨rfl, rfl⟩)

theorem raddleref11_state_j2_T {r : Bool} (K : Nat) (h : raddleref11_state_j2 K = some r) : T Try.prog 96 (Code.at [1, 1, 1, 0, 1, 0, 0, 1, 0, 0, 0, 1, 0] (codeOf Try.f42)) ⟨[], []⟩ (raddleref11_state_qs11101001001 r) := by
  unfold raddleref11_state_j2 at h
  refine T.seq ?_
  refine T.regionL ?_
  refine asg rfl rfl rfl rfl rfl ?_
  refine TL'.nil (thenS_normal ?_)
  refine T.ret (thenS_ret (inBlock_ret (thenS_ret (thenS_ret (inBlock_ret (thenS_ret ?_))))))
  exact Fin.done (.cons _ _ _ _ (.tmp 4 _ rfl) .nil) (by cases h; exact ⟨rfl, rfl⟩)

abbrev raddleref11_state_l1_H (r : Bool) (go : Int → Int → api_Auto → api_State → Option Bool) : Prop := ∀ (x5_1_8 : Int) (x6_1_9 : Int) (x0 : api_Auto) (x1 : api_State) (b2_1 : Nat) (b3_1 : Nat), go x5_1_8 x6_1_9 x0 x1 = some r → TL Try.prog 96 (Code.at [1, 1, 1, 0, 1, 0, 0] (codeOf Try.f42)) ⟨[(2, .ptr b2_1 0), (3, .ptr b3_1 0), (5, .int .i64 x5_1_8), (6, .int .i64 x6_1_9)], [.box b2_1 28 ((ArrN.oc 256 .u8 x0.Split.Of) ++ (([.d (.int .i64 x0.Split.Many), .d (.sl false 2 (x0.Counts.map (Arr2.dc .i64))), .d (.sl false 4 (x0.States.map c_api_State))] : List OC))), .box b3_1 59 [.d (.sl false 1 (x1.L.map (cI .i64))), .d (.sl false 1 (x1.R.map (cI .i64))), .d (.sl false 1 (x1.Rule.map (cI .i64))), .d (.sl false 1 (x1.Next.map (cL 2 c_api_Move)))]]⟩ (raddleref11_state_qb0x1111 r)

theorem raddleref11_state_l3_T {r : Bool} (K : Nat) (go1 : Int → Int → api_Auto → api_State → Option Bool) (hgo1 : raddleref11_state_l1_H r go1) : ∀ (k : Nat), ∀ (x5_1_8 : Int) (x6_3_9 : Int) (x7_3_10 : Int) (x1 : api_State) (x57_3_12 : Int) (x58_3_13 : Int) (x59_3_14 : Int) (x60_3_15 : Bool) (x65_3_17 : Int) (x66_3_18 : List api_Move) (x67_3_19 : List api_Move) (x68_3_20 : Int) (x0 : api_Auto) (x72_3_22 : Bool) (b2_3 : Nat) (b3_3 : Nat), raddleref11_state_l3 K go1 k x5_1_8 x6_3_9 x7_3_10 x1 x57_3_12 x58_3_13 x59_3_14 x60_3_15 x65_3_17 x66_3_18 x67_3_19 x68_3_20 x0 x72_3_22 = some r → TL Try.prog 96 (Code.at [1, 1, 1, 0, 1, 0, 0, 1, 0, 0, 1, 1, 0, 0] (codeOf Try.f42)) ⟨[(2, .ptr b2_3 0), (3, .ptr b3_3 0), (5, .int .i64 x5_1_8), (6, .int .i64 x6_3_9), (7, .int .i64 x7_3_10), (55, .ptr b3_3 (0 + 2)), (56, .sl false 1 (x1.Rule.map (cI .i64))), (57, .int .i64 x57_3_12), (58, .ref [.int .i64 x58_3_13]), (59, .int .i64 x59_3_14), (60, .bool x60_3_15), (63, .ptr b3_3 (0 + 3)), (64, .sl false 1 (x1.Next.map (cL 2 c_api_Move))), (65, .int .i64 x65_3_17), (66, .ref [.sl false 2 (x66_3_18.map c_api_Move)]), (67, .sl false 2 (x67_3_19.map c_api_Move)), (68, .int .i64 x68_3_20), (69, .ptr b2_3 (0 + 0)), (70, .ptr b2_3 (0 + 0 + 256)), (71, .int .i64 x0.Split.Many), (72, .bool x72_3_22)], [.box b2_3 28 ((ArrN.oc 256 .u8 x0.Split.Of) ++ (([.d (.int .i64 x0.Split.Many), .d (.sl false 2 (x0.Counts.map (Arr2.dc .i64))), .d (.sl false 4 (x0.States.map c_api_State))] : List OC))), .box b3_3 59 [.d (.sl false 1 (x1.L.map (cI .i64))), .d (.sl false 1 (x1.R.map (cI .i64))), .d (.sl false 1 (x1.Rule.map (cI .i64))), .d (.sl false 1 (x1.Next.map (cL 2 c_api_Move)))]]⟩ (raddleref11_state_qb2_1_0x111010011 r) := by
  intro k
  induction k with
  | zero =>
    intro x5_1_8 x6_3_9 x7_3_10 x1 x57_3_12 x58_3_13 x59_3_14 x60_3_15 x65_3_17 x66_3_18 x67_3_19 x68_3_20 x0 x72_3_22 b2_3 b3_3 h
    cases (show (none : Option Bool) = some r from h)
  | succ k ih =>
    intro x5_1_8 x6_3_9 x7_3_10 x1 x57_3_12 x58_3_13 x59_3_14 x60_3_15 x65_3_17 x66_3_18 x67_3_19 x68_3_20 x0 x72_3_22 b2_3 b3_3 h
    rw [raddleref11_state_l3] at h
    refine TL.round ?_
    refine T.seq ?_
    refine T.seq ?_
    refine T.regionL ?_
    refine mv rfl rfl rfl rfl rfl ?_
    refine sp rfl (OpT.fieldPtr rfl (dl rfl rfl) Try.underlying59 rfl i57 (by decide) rfl ?_)
    refine sp rfl (OpT.loadBox (i := 1) rfl (dl rfl rfl) Try.underlying57 rfl rfl rfl rfl ?_)
    refine mv rfl rfl rfl rfl rfl ?_
    obtain ⟨v_688, e_689, h⟩ := bind_some h
    refine sp rfl (OpT.indexSlM (xs := x1.Next) (f := (cL 2 c_api_Move)) (v := v_688) rfl (dl rfl rfl) Try.underlying57 i61 rfl rfl e_689 ?_)
    refine sp rfl (OpT.loadRef rfl (dl rfl rfl) Try.underlying61 rfl rfl rfl ?_)
    refine sp rfl (OpT.lenSlM (xs := v_688) (f := c_api_Move) rfl (dl rfl rfl) Try.underlying61 rfl ?_)
    refine sp rfl (OpT.int2 rfl rfl (dl rfl rfl) rfl rfl ?_)
    refine TL'.nil (thenS_normal ?_)
    rcases bif_some h with ⟨c_690, h⟩ | ⟨c_690, h⟩
    · refine T.condT rfl c_690 ?_
      refine T.skip (thenS_normal ?_)
      refine T.seq ?_
      refine T.block ?_
      refine T.seq ?_
      refine DG.start ?_
      refine DG.step (c := ⟨some 84, .agg ((ArrN.dc 256 .u8 x0.Split.Of) ++ (([.int .i64 x0.Split.Many, .sl false 2 (x0.Counts.map (Arr2.dc .i64)), .sl false 4 (x0.States.map c_api_State)] : List DC))), [(2, .ptr b2_3 0)], [(0, .box b2_3 28 ((ArrN.oc 256 .u8 x0.Split.Of) ++ (([.d (.int .i64 x0.Split.Many), .d (.sl false 2 (x0.Counts.map (Arr2.dc .i64))), .d (.sl false 4 (x0.States.map c_api_State))] : List OC))))], []⟩) (fun t hm => One.step rfl (.free rfl) (OpT.loadBoxAgg (i := 0) (l := ((ArrN.dc 256 .u8 x0.Split.Of) ++ (([.int .i64 x0.Split.Many, .sl false 2 (x0.Counts.map (Arr2.dc .i64)), .sl false 4 (x0.States.map c_api_State)] : List DC)))) rfl (dl rfl rfl) Try.underlying28 rfl i28 hm.s0 hm.o0 rfl rfl rfl)) (Ct.met_of rfl rfl) ?_
      refine DG.step (c := ⟨some 85, .agg [.sl false 1 (x1.L.map (cI .i64)), .sl false 1 (x1.R.map (cI .i64)), .sl false 1 (x1.Rule.map (cI .i64)), .sl false 1 (x1.Next.map (cL 2 c_api_Move))], [(3, .ptr b3_3 0)], [(1, .box b3_3 59 [.d (.sl false 1 (x1.L.map (cI .i64))), .d (.sl false 1 (x1.R.map (cI .i64))), .d (.sl false 1 (x1.Rule.map (cI .i64))), .d (.sl false 1 (x1.Next.map (cL 2 c_api_Move)))])], []⟩) (fun t hm => One.step rfl (.free rfl) (OpT.loadBoxAgg (i := 1) (l := [.sl false 1 (x1.L.map (cI .i64)), .sl false 1 (x1.R.map (cI .i64)), .sl false 1 (x1.Rule.map (cI .i64)), .sl false 1 (x1.Next.map (cL 2 c_api_Move))]) rfl (dl rfl rfl) Try.underlying59 rfl i59 hm.s0 hm.o0 rfl rfl rfl)) (Ct.met_of rfl rfl) ?_
      refine DG.step (c := ⟨some 86, .ptr b3_3 (0 + 3), [(3, .ptr b3_3 0)], [], []⟩) (fun t hm => One.step rfl (.free rfl) (OpT.fieldPtr rfl (dl rfl rfl) Try.underlying59 rfl i57 (by decide) hm.s0 rfl)) (Ct.met_of rfl rfl) ?_
      refine DG.step (c := ⟨some 87, .sl false 1 (x1.Next.map (cL 2 c_api_Move)), [(86, .ptr b3_3 (0 + 3))], [(1, .box b3_3 59 [.d (.sl false 1 (x1.L.map (cI .i64))), .d (.sl false 1 (x1.R.map (cI .i64))), .d (.sl false 1 (x1.Rule.map (cI .i64))), .d (.sl false 1 (x1.Next.map (cL 2 c_api_Move)))])], []⟩) (fun t hm => One.step rfl (.free rfl) (OpT.loadBox (i := 1) rfl (dl rfl rfl) Try.underlying57 rfl hm.s0 hm.o0 rfl rfl)) (Ct.met_of rfl rfl) ?_
      refine DG.mv rfl rfl rfl rfl rfl rfl ?_
      refine DG.step (c := ⟨some 89, .ref [.sl false 2 (v_688.map c_api_Move)], [(87, .sl false 1 (x1.Next.map (cL 2 c_api_Move))), (88, .int .i64 x6_3_9)], [], []⟩) (fun t hm => One.step rfl (.free rfl) (OpT.indexSlM (xs := x1.Next) (f := (cL 2 c_api_Move)) (v := v_688) rfl (dl rfl rfl) Try.underlying57 i61 hm.s0 hm.s1 e_689 rfl)) (Ct.met_of rfl rfl) ?_
      refine DG.step (c := ⟨some 90, .sl false 2 (v_688.map c_api_Move), [(89, .ref [.sl false 2 (v_688.map c_api_Move)])], [], []⟩) (fun t hm => One.step rfl (.free rfl) (OpT.loadRef rfl (dl rfl rfl) Try.underlying61 rfl hm.s0 rfl rfl)) (Ct.met_of rfl rfl) ?_
      refine DG.mv rfl rfl rfl rfl rfl rfl ?_
      obtain ⟨v_696, e_697, h⟩ := bind_some h
      refine DG.step (c := ⟨some 92, .ref [.int .i64 v_696.To, .sl false 1 (v_696.Ops.map (cI .u8))], [(90, .sl false 2 (v_688.map c_api_Move)), (91, .int .i64 x7_3_10)], [], []⟩) (fun t hm => One.step rfl (.free rfl) (OpT.indexSlM (xs := v_688) (f := c_api_Move) (v := v_696) rfl (dl rfl rfl) Try.underlying61 i63 hm.s0 hm.s1 e_697 rfl)) (Ct.met_of rfl rfl) ?_
      refine DG.step (c := ⟨some 93, .agg [.int .i64 v_696.To, .sl false 1 (v_696.Ops.map (cI .u8))], [(92, .ref [.int .i64 v_696.To, .sl false 1 (v_696.Ops.map (cI .u8))])], [], []⟩) (fun t hm => One.step rfl (.free rfl) (OpT.loadRefAgg rfl (dl rfl rfl) Try.underlying63 rfl i63 hm.s0 (Nat.le_of_ble_eq_true rfl) rfl)) (Ct.met_of rfl rfl) ?_
      obtain ⟨v_698, e_699, h⟩ := bind_some h
      refine DG.step (c := ⟨some 94, .bool v_698, [(84, .agg ((ArrN.dc 256 .u8 x0.Split.Of) ++ (([.int .i64 x0.Split.Many, .sl false 2 (x0.Counts.map (Arr2.dc .i64)), .sl false 4 (x0.States.map c_api_State)] : List DC)))), (85, .agg [.sl false 1 (x1.L.map (cI .i64)), .sl false 1 (x1.R.map (cI .i64)), .sl false 1 (x1.Rule.map (cI .i64)), .sl false 1 (x1.Next.map (cL 2 c_api_Move))]), (93, .agg [.int .i64 v_696.To, .sl false 1 (v_696.Ops.map (cI .u8))])], [], []⟩) (fun t hm => One.step rfl (.free rfl) (OpT.callPA rfl (dl rfl rfl) Try.func62 rfl rfl (Args.cons hm.s0 (Args.cons hm.s1 (Args.cons hm.s2 Args.nil))) (CallR.nil (raddleref11_move_T K e_699)) rfl)) (Ct.met_of rfl rfl) ?_
      refine DG.step (c := ⟨some 95, .bool (!v_698), [(94, .bool v_698)], [], []⟩) (fun t hm => One.step rfl (.free rfl) (OpT.not rfl (dl rfl rfl) hm.s0 rfl)) (Ct.met_of rfl rfl) ?_
      refine DG.fin (s1 := ⟨[(2, .ptr b2_3 0), (3, .ptr b3_3 0), (5, .int .i64 x5_1_8), (6, .int .i64 x6_3_9), (7, .int .i64 x7_3_10), (55, .ptr b3_3 (0 + 2)), (56, .sl false 1 (x1.Rule.map (cI .i64))), (57, .int .i64 x57_3_12), (58, .ref [.int .i64 x58_3_13]), (59, .int .i64 x59_3_14), (60, .bool x60_3_15), (63, .ptr b3_3 (0 + 3)), (64, .sl false 1 (x1.Next.map (cL 2 c_api_Move))), (65, .int .i64 x65_3_17), (66, .ref [.sl false 2 (x66_3_18.map c_api_Move)]), (67, .sl false 2 (x67_3_19.map c_api_Move)), (68, .int .i64 x68_3_20), (69, .ptr b2_3 (0 + 0)), (70, .ptr b2_3 (0 + 0 + 256)), (71, .int .i64 x0.Split.Many), (72, .bool x72_3_22), (95, .bool (!v_698))], [.box b2_3 28 ((ArrN.oc 256 .u8 x0.Split.Of) ++ (([.d (.int .i64 x0.Split.Many), .d (.sl false 2 (x0.Counts.map (Arr2.dc .i64))), .d (.sl false 4 (x0.States.map c_api_State))] : List OC))), .box b3_3 59 [.d (.sl false 1 (x1.L.map (cI .i64))), .d (.sl false 1 (x1.R.map (cI .i64))), .d (.sl false 1 (x1.Rule.map (cI .i64))), .d (.sl false 1 (x1.Next.map (cL 2 c_api_Move)))]]⟩) (ms := [0, 0, 0, 4, 0, 28, 60, 0, 252, 508, 1023, 2047]) TryMixed rfl (by kernel_rfl) (by kernel_rfl) (by kernel_rfl) (.cons rfl (.cons rfl (.cons rfl (.cons rfl (.cons rfl (.cons rfl (.cons rfl (.cons rfl (.cons rfl (.cons rfl (.cons rfl (.cons rfl (.cons rfl (.cons rfl (.cons rfl (.cons rfl (.cons rfl (.cons rfl (.cons rfl (.cons rfl (.cons rfl (.cons rfl (.nil _))))))))))))))))))))))) rfl (fun u hu => (thenS_normal (T.by_turn hu ?_)))
      rcases bif_some h with ⟨c_700, h⟩ | ⟨c_700, h⟩
      · refine T.condT rfl c_700 ?_
        refine T.seq ?_
        refine T.regionL ?_
        refine asg rfl rfl rfl rfl rfl ?_
        refine TL'.nil (thenS_normal ?_)
        refine T.ret (inBlock_ret (thenS_ret (thenS_ret (inBlock_ret (inBlock_ret (thenS_ret (thenS_ret (inBlock_ret (thenS_ret ?_)))))))))
        exact Fin.done (.cons _ _ _ _ (.tmp 4 _ rfl) .nil) (by cases h; exact ⟨rfl, rfl⟩)
      · refine T.condF rfl c_700 ?_
        refine T.skip (inBlock_normal (thenS_normal ?_))
        refine T.regionL ?_
        refine mv rfl rfl rfl rfl rfl ?_
        refine sp rfl (OpT.int2 rfl rfl (dl rfl rfl) rfl rfl ?_)
        refine asg rfl rfl rfl rfl rfl ?_
        refine TL'.nil (thenS_normal ?_)
        refine TL.by_turn ?_ (ih x5_1_8 x6_3_9 (IntKind.i64.wrap (x7_3_10 + (1 : Int))) x1 x57_3_12 x58_3_13 x59_3_14 x60_3_15 x65_3_17 x66_3_18 x67_3_19 x68_3_20 x0 x72_3_22 b2_3 b3_3 h)
        exact Turn.rp (.cons rfl (.cons rfl (.cons rfl (.cons rfl (.cons rfl (.cons rfl (.cons rfl (.cons rfl (.cons rfl (.cons rfl (.cons rfl (.cons rfl (.cons rfl (.cons rfl (.cons rfl (.cons rfl (.cons rfl (.cons rfl (.cons rfl (.cons rfl (.cons rfl (.nil _)))))))))))))))))))))) (.c .z (.c .z (.n _)))
    · refine T.condF rfl c_690 ?_
      refine T.exit (thenS_exit (thenS_exit (inBlock_exit (inBlock_normal (thenS_normal ?_)))))
      refine T.regionL ?_
      refine mv rfl rfl rfl rfl rfl ?_
      refine sp rfl (OpT.int2 rfl rfl (dl rfl rfl) rfl rfl ?_)
      refine asg rfl rfl rfl rfl rfl ?_
      refine TL'.nil (thenS_normal ?_)
      refine TL.by_turn ?_ (hgo1 x5_1_8 (IntKind.i64.wrap (x6_3_9 + (1 : Int))) x0 x1 b2_3 b3_3 h)
      exact Turn.rp (.cons rfl (.cons rfl (.cons rfl (.cons rfl (.nil _))))) (.c .z (.c .z (.n _)))

theorem raddleref11_state_l1_T {r : Bool} (K : Nat) : ∀ (k : Nat), ∀ (x5_1_8 : Int) (x6_1_9 : Int) (x0 : api_Auto) (x1 : api_State) (b2_1 : Nat) (b3_1 : Nat), raddleref11_state_l1 K k x5_1_8 x6_1_9 x0 x1 = some r → TL Try.prog 96 (Code.at [1, 1, 1, 0, 1, 0, 0] (codeOf Try.f42)) ⟨[(2, .ptr b2_1 0), (3, .ptr b3_1 0), (5, .int .i64 x5_1_8), (6, .int .i64 x6_1_9)], [.box b2_1 28 ((ArrN.oc 256 .u8 x0.Split.Of) ++ (([.d (.int .i64 x0.Split.Many), .d (.sl false 2 (x0.Counts.map (Arr2.dc .i64))), .d (.sl false 4 (x0.States.map c_api_State))] : List OC))), .box b3_1 59 [.d (.sl false 1 (x1.L.map (cI .i64))), .d (.sl false 1 (x1.R.map (cI .i64))), .d (.sl false 1 (x1.Rule.map (cI .i64))), .d (.sl false 1 (x1.Next.map (cL 2 c_api_Move)))]]⟩ (raddleref11_state_qb0x1111 r) := by
  intro k
  induction k with
  | zero =>
    intro x5_1_8 x6_1_9 x0 x1 b2_1 b3_1 h
    cases (show (none : Option Bool) = some r from h)
  | succ k ih =>
    intro x5_1_8 x6_1_9 x0 x1 b2_1 b3_1 h
    rw [raddleref11_state_l1] at h
    refine TL.round ?_
    refine T.seq ?_
    refine T.seq ?_
    refine T.regionL ?_
    refine mv rfl rfl rfl rfl rfl ?_
    refine mv rfl rfl rfl rfl rfl ?_
    refine sp rfl (OpT.int2 rfl rfl (dl rfl rfl) rfl rfl ?_)
    refine TL'.nil (thenS_normal ?_)
    rcases bif_some h with ⟨c_673, h⟩ | ⟨c_673, h⟩
    · refine T.condT rfl c_673 ?_
      refine T.skip (thenS_normal ?_)
      refine T.seq ?_
      refine T.block ?_
      refine T.seq ?_
      refine T.seq ?_
      refine DG.start ?_
      refine DG.step (c := ⟨some 48, .ptr b3_1 (0 + 2), [(3, .ptr b3_1 0)], [], []⟩) (fun t hm => One.step rfl (.free rfl) (OpT.fieldPtr rfl (dl rfl rfl) Try.underlying59 rfl i56 (by decide) hm.s0 rfl)) (Ct.met_of rfl rfl) ?_
      refine DG.step (c := ⟨some 49, .sl false 1 (x1.Rule.map (cI .i64)), [(48, .ptr b3_1 (0 + 2))], [(1, .box b3_1 59 [.d (.sl false 1 (x1.L.map (cI .i64))), .d (.sl false 1 (x1.R.map (cI .i64))), .d (.sl false 1 (x1.Rule.map (cI .i64))), .d (.sl false 1 (x1.Next.map (cL 2 c_api_Move)))])], []⟩) (fun t hm => One.step rfl (.free rfl) (OpT.loadBox (i := 1) rfl (dl rfl rfl) Try.underlying56 rfl hm.s0 hm.o0 rfl rfl)) (Ct.met_of rfl rfl) ?_
      refine DG.mv rfl rfl rfl rfl rfl rfl ?_
      obtain ⟨v_681, e_682, h⟩ := bind_some h
      refine DG.step (c := ⟨some 51, .ref [.int .i64 v_681], [(49, .sl false 1 (x1.Rule.map (cI .i64))), (50, .int .i64 x6_1_9)], [], []⟩) (fun t hm => One.step rfl (.free rfl) (OpT.indexSlM (xs := x1.Rule) (f := (cI .i64)) (v := v_681) rfl (dl rfl rfl) Try.underlying56 i3 hm.s0 hm.s1 e_682 rfl)) (Ct.met_of rfl rfl) ?_
      refine DG.step (c := ⟨some 52, .int .i64 v_681, [(51, .ref [.int .i64 v_681])], [], []⟩) (fun t hm => One.step rfl (.free rfl) (OpT.loadRef rfl (dl rfl rfl) Try.underlying3 rfl hm.s0 rfl rfl)) (Ct.met_of rfl rfl) ?_
      refine DG.step (c := ⟨some 53, .bool (decide (v_681 < (-1 : Int))), [(52, .int .i64 v_681)], [], []⟩) (fun t hm => One.step rfl (.free rfl) (OpT.int2 rfl rfl (dl rfl rfl) hm.s0 rfl rfl)) (Ct.met_of rfl rfl) ?_
      refine DG.mv rfl rfl rfl rfl rfl rfl ?_
      rcases bif_some h with ⟨c_683, h⟩ | ⟨c_683, h⟩
      · refine DG.off c_683 rfl rfl rfl rfl rfl rfl ?_
        refine DG.off c_683 rfl rfl rfl rfl rfl rfl ?_
        refine DG.off c_683 rfl rfl rfl rfl rfl rfl ?_
        refine DG.off c_683 rfl rfl rfl rfl rfl rfl ?_
        refine DG.off c_683 rfl rfl rfl rfl rfl rfl ?_
        refine DG.off c_683 rfl rfl rfl rfl rfl rfl ?_
        refine DG.step (c := ⟨some 61, .bool true, [(54, .bool (decide (v_681 < (-1 : Int))))], [], []⟩) (fun t hm => One.step rfl (.free rfl) (OpT.pickT rfl (dl rfl rfl) hm.s0 c_683 rfl rfl)) (Ct.met_of rfl rfl) ?_
        refine DG.mv rfl rfl rfl rfl rfl rfl ?_
        refine DG.off rfl rfl rfl rfl rfl rfl rfl ?_
        refine DG.off rfl rfl rfl rfl rfl rfl rfl ?_
        refine DG.off rfl rfl rfl rfl rfl rfl rfl ?_
        refine DG.off rfl rfl rfl rfl rfl rfl rfl ?_
        refine DG.off rfl rfl rfl rfl rfl rfl rfl ?_
        refine DG.off rfl rfl rfl rfl rfl rfl rfl ?_
        refine DG.off rfl rfl rfl rfl rfl rfl rfl ?_
        refine DG.off rfl rfl rfl rfl rfl rfl rfl ?_
        refine DG.off rfl rfl rfl rfl rfl rfl rfl ?_
        refine DG.off rfl rfl rfl rfl rfl rfl rfl ?_
        refine DG.step (c := ⟨some 73, .bool true, [(62, .bool true)], [], []⟩) (fun t hm => One.step rfl (.free rfl) (OpT.pickT rfl (dl rfl rfl) hm.s0 rfl rfl rfl)) (Ct.met_of rfl rfl) ?_
        refine DG.fin (s1 := ⟨[(2, .ptr b2_1 0), (3, .ptr b3_1 0), (5, .int .i64 x5_1_8), (6, .int .i64 x6_1_9), (55, .tup []), (56, .tup []), (57, .tup []), (58, .tup []), (59, .tup []), (60, .tup []), (63, .tup []), (64, .tup []), (65, .tup []), (66, .tup []), (67, .tup []), (68, .tup []), (69, .tup []), (70, .tup []), (71, .tup []), (72, .tup []), (73, .bool true)], [.box b2_1 28 ((ArrN.oc 256 .u8 x0.Split.Of) ++ (([.d (.int .i64 x0.Split.Many), .d (.sl false 2 (x0.Counts.map (Arr2.dc .i64))), .d (.sl false 4 (x0.States.map c_api_State))] : List OC))), .box b3_1 59 [.d (.sl false 1 (x1.L.map (cI .i64))), .d (.sl false 1 (x1.R.map (cI .i64))), .d (.sl false 1 (x1.Rule.map (cI .i64))), .d (.sl false 1 (x1.Next.map (cL 2 c_api_Move)))]]⟩) (ms := [0, 1, 0, 7, 15, 31, 63, 127, 255, 127, 1023, 2047, 4095, 8191, 16383, 32767, 65535, 32767, 262143, 524287, 1048575, 32767, 2129919, 6324223, 16777215, 33554431]) TryMixed rfl (by kernel_rfl) (by kernel_rfl) (by kernel_rfl) (.cons rfl (.cons rfl (.cons rfl (.cons rfl (.cons rfl (.cons rfl (.cons rfl (.cons rfl (.cons rfl (.cons rfl (.cons rfl (.cons rfl (.cons rfl (.cons rfl (.cons rfl (.cons rfl (.cons rfl (.cons rfl (.cons rfl (.cons rfl (.cons rfl (.nil _)))))))))))))))))))))) rfl (fun u hu => (thenS_normal (T.by_turn hu ?_)))
        refine T.condT rfl rfl ?_
        refine T.by_turn ?_ (raddleref11_state_j2_T K h)
        exact Turn.rp (.nil _) (.n _)
      · refine DG.step (c := ⟨some 55, .ptr b3_1 (0 + 2), [(3, .ptr b3_1 0), (54, .bool (decide (v_681 < (-1 : Int))))], [], []⟩) (fun t hm => One.step rfl (.on rfl rfl hm.s1 c_683) (OpT.fieldPtr rfl (dl rfl rfl) Try.underlying59 rfl i56 (by decide) hm.s0 rfl)) (Ct.met_of rfl rfl) ?_
        refine DG.step (c := ⟨some 56, .sl false 1 (x1.Rule.map (cI .i64)), [(55, .ptr b3_1 (0 + 2)), (54, .bool (decide (v_681 < (-1 : Int))))], [(1, .box b3_1 59 [.d (.sl false 1 (x1.L.map (cI .i64))), .d (.sl false 1 (x1.R.map (cI .i64))), .d (.sl false 1 (x1.Rule.map (cI .i64))), .d (.sl false 1 (x1.Next.map (cL 2 c_api_Move)))])], []⟩) (fun t hm => One.step rfl (.on rfl rfl hm.s1 c_683) (OpT.loadBox (i := 1) rfl (dl rfl rfl) Try.underlying56 rfl hm.s0 hm.o0 rfl rfl)) (Ct.met_of rfl rfl) ?_
        refine DG.step (c := ⟨some 57, .int .i64 x6_1_9, [(6, .int .i64 x6_1_9), (54, .bool (decide (v_681 < (-1 : Int))))], [], []⟩) (fun t hm => One.step rfl (.on rfl rfl hm.s1 c_683) (OpT.move rfl (dl rfl rfl) hm.s0 rfl)) (Ct.met_of rfl rfl) ?_
        refine DG.step (c := ⟨some 58, .ref [.int .i64 v_681], [(56, .sl false 1 (x1.Rule.map (cI .i64))), (57, .int .i64 x6_1_9), (54, .bool (decide (v_681 < (-1 : Int))))], [], []⟩) (fun t hm => One.step rfl (.on rfl rfl hm.s2 c_683) (OpT.indexSlM (xs := x1.Rule) (f := (cI .i64)) (v := v_681) rfl (dl rfl rfl) Try.underlying56 i3 hm.s0 hm.s1 e_682 rfl)) (Ct.met_of rfl rfl) ?_
        refine DG.step (c := ⟨some 59, .int .i64 v_681, [(58, .ref [.int .i64 v_681]), (54, .bool (decide (v_681 < (-1 : Int))))], [], []⟩) (fun t hm => One.step rfl (.on rfl rfl hm.s1 c_683) (OpT.loadRef rfl (dl rfl rfl) Try.underlying3 rfl hm.s0 rfl rfl)) (Ct.met_of rfl rfl) ?_
        refine DG.step (c := ⟨some 60, .bool (decide (v_681 ≥ (512 : Int))), [(59, .int .i64 v_681), (54, .bool (decide (v_681 < (-1 : Int))))], [], []⟩) (fun t hm => One.step rfl (.on rfl rfl hm.s1 c_683) (OpT.int2 rfl rfl (dl rfl rfl) hm.s0 rfl rfl)) (Ct.met_of rfl rfl) ?_
        refine DG.step (c := ⟨some 61, .bool (decide (v_681 ≥ (512 : Int))), [(54, .bool (decide (v_681 < (-1 : Int)))), (60, .bool (decide (v_681 ≥ (512 : Int))))], [], []⟩) (fun t hm => One.step rfl (.free rfl) (OpT.pickF rfl (dl rfl rfl) hm.s0 c_683 hm.s1 rfl)) (Ct.met_of rfl rfl) ?_
        refine DG.mv rfl rfl rfl rfl rfl rfl ?_
        rcases bif_some h with ⟨c_684, h⟩ | ⟨c_684, h⟩
        · refine DG.off c_684 rfl rfl rfl rfl rfl rfl ?_
          refine DG.off c_684 rfl rfl rfl rfl rfl rfl ?_
          refine DG.off c_684 rfl rfl rfl rfl rfl rfl ?_
          refine DG.off c_684 rfl rfl rfl rfl rfl rfl ?_
          refine DG.off c_684 rfl rfl rfl rfl rfl rfl ?_
          refine DG.off c_684 rfl rfl rfl rfl rfl rfl ?_
          refine DG.off c_684 rfl rfl rfl rfl rfl rfl ?_
          refine DG.off c_684 rfl rfl rfl rfl rfl rfl ?_
          refine DG.off c_684 rfl rfl rfl rfl rfl rfl ?_
          refine DG.off c_684 rfl rfl rfl rfl rfl rfl ?_
          refine DG.step (c := ⟨some 73, .bool true, [(62, .bool (decide (v_681 ≥ (512 : Int))))], [], []⟩) (fun t hm => One.step rfl (.free rfl) (OpT.pickT rfl (dl rfl rfl) hm.s0 c_684 rfl rfl)) (Ct.met_of rfl rfl) ?_
          refine DG.fin (s1 := ⟨[(2, .ptr b2_1 0), (3, .ptr b3_1 0), (5, .int .i64 x5_1_8), (6, .int .i64 x6_1_9), (55, .ptr b3_1 (0 + 2)), (56, .sl false 1 (x1.Rule.map (cI .i64))), (57, .int .i64 x6_1_9), (58, .ref [.int .i64 v_681]), (59, .int .i64 v_681), (60, .bool (decide (v_681 ≥ (512 : Int)))), (63, .tup []), (64, .tup []), (65, .tup []), (66, .tup []), (67, .tup []), (68, .tup []), (69, .tup []), (70, .tup []), (71, .tup []), (72, .tup []), (73, .bool true)], [.box b2_1 28 ((ArrN.oc 256 .u8 x0.Split.Of) ++ (([.d (.int .i64 x0.Split.Many), .d (.sl false 2 (x0.Counts.map (Arr2.dc .i64))), .d (.sl false 4 (x0.States.map c_api_State))] : List OC))), .box b3_1 59 [.d (.sl false 1 (x1.L.map (cI .i64))), .d (.sl false 1 (x1.R.map (cI .i64))), .d (.sl false 1 (x1.Rule.map (cI .i64))), .d (.sl false 1 (x1.Next.map (cL 2 c_api_Move)))]]⟩) (ms := [0, 1, 0, 7, 15, 31, 63, 127, 255, 127, 1023, 2047, 4095, 8191, 16383, 32767, 65535, 32767, 262143, 524287, 1048575, 32767, 2129919, 6324223, 16777215, 33554431]) TryMixed rfl (by kernel_rfl) (by kernel_rfl) (by kernel_rfl) (.cons rfl (.cons rfl (.cons rfl (.cons rfl (.cons rfl (.cons rfl (.cons rfl (.cons rfl (.cons rfl (.cons rfl (.cons rfl (.cons rfl (.cons rfl (.cons rfl (.cons rfl (.cons rfl (.cons rfl (.cons rfl (.cons rfl (.cons rfl (.cons rfl (.nil _)))))))))))))))))))))) rfl (fun u hu => (thenS_normal (T.by_turn hu ?_)))
          refine T.condT rfl rfl ?_
          refine T.by_turn ?_ (raddleref11_state_j2_T K h)
          exact Turn.rp (.nil _) (.n _)
        · refine DG.step (c := ⟨some 63, .ptr b3_1 (0 + 3), [(3, .ptr b3_1 0), (62, .bool (decide (v_681 ≥ (512 : Int))))], [], []⟩) (fun t hm => One.step rfl (.on rfl rfl hm.s1 c_684) (OpT.fieldPtr rfl (dl rfl rfl) Try.underlying59 rfl i57 (by decide) hm.s0 rfl)) (Ct.met_of rfl rfl) ?_
          refine DG.step (c := ⟨some 64, .sl false 1 (x1.Next.map (cL 2 c_api_Move)), [(63, .ptr b3_1 (0 + 3)), (62, .bool (decide (v_681 ≥ (512 : Int))))], [(1, .box b3_1 59 [.d (.sl false 1 (x1.L.map (cI .i64))), .d (.sl false 1 (x1.R.map (cI .i64))), .d (.sl false 1 (x1.Rule.map (cI .i64))), .d (.sl false 1 (x1.Next.map (cL 2 c_api_Move)))])], []⟩) (fun t hm => One.step rfl (.on rfl rfl hm.s1 c_684) (OpT.loadBox (i := 1) rfl (dl rfl rfl) Try.underlying57 rfl hm.s0 hm.o0 rfl rfl)) (Ct.met_of rfl rfl) ?_
          refine DG.step (c := ⟨some 65, .int .i64 x6_1_9, [(6, .int .i64 x6_1_9), (62, .bool (decide (v_681 ≥ (512 : Int))))], [], []⟩) (fun t hm => One.step rfl (.on rfl rfl hm.s1 c_684) (OpT.move rfl (dl rfl rfl) hm.s0 rfl)) (Ct.met_of rfl rfl) ?_
          obtain ⟨v_685, e_686, h⟩ := bind_some h
          refine DG.step (c := ⟨some 66, .ref [.sl false 2 (v_685.map c_api_Move)], [(64, .sl false 1 (x1.Next.map (cL 2 c_api_Move))), (65, .int .i64 x6_1_9), (62, .bool (decide (v_681 ≥ (512 : Int))))], [], []⟩) (fun t hm => One.step rfl (.on rfl rfl hm.s2 c_684) (OpT.indexSlM (xs := x1.Next) (f := (cL 2 c_api_Move)) (v := v_685) rfl (dl rfl rfl) Try.underlying57 i61 hm.s0 hm.s1 e_686 rfl)) (Ct.met_of rfl rfl) ?_
          refine DG.step (c := ⟨some 67, .sl false 2 (v_685.map c_api_Move), [(66, .ref [.sl false 2 (v_685.map c_api_Move)]), (62, .bool (decide (v_681 ≥ (512 : Int))))], [], []⟩) (fun t hm => One.step rfl (.on rfl rfl hm.s1 c_684) (OpT.loadRef rfl (dl rfl rfl) Try.underlying61 rfl hm.s0 rfl rfl)) (Ct.met_of rfl rfl) ?_
          refine DG.step (c := ⟨some 68, .int .i64 (v_685.length : Int), [(67, .sl false 2 (v_685.map c_api_Move)), (62, .bool (decide (v_681 ≥ (512 : Int))))], [], []⟩) (fun t hm => One.step rfl (.on rfl rfl hm.s1 c_684) (OpT.lenSlM (xs := v_685) (f := c_api_Move) rfl (dl rfl rfl) Try.underlying61 hm.s0 rfl)) (Ct.met_of rfl rfl) ?_
          refine DG.step (c := ⟨some 69, .ptr b2_1 (0 + 0), [(2, .ptr b2_1 0), (62, .bool (decide (v_681 ≥ (512 : Int))))], [], []⟩) (fun t hm => One.step rfl (.on rfl rfl hm.s1 c_684) (OpT.fieldPtr rfl (dl rfl rfl) Try.underlying28 rfl i24 (by decide) hm.s0 rfl)) (Ct.met_of rfl rfl) ?_
          refine DG.step (c := ⟨some 70, .ptr b2_1 (0 + 0 + 256), [(69, .ptr b2_1 (0 + 0)), (62, .bool (decide (v_681 ≥ (512 : Int))))], [], []⟩) (fun t hm => One.step rfl (.on rfl rfl hm.s1 c_684) (OpT.fieldPtr rfl (dl rfl rfl) Try.underlying24 rfl i3 (by decide) hm.s0 rfl)) (Ct.met_of rfl rfl) ?_
          refine DG.step (c := ⟨some 71, .int .i64 x0.Split.Many, [(70, .ptr b2_1 (0 + 0 + 256)), (62, .bool (decide (v_681 ≥ (512 : Int))))], [(0, .box b2_1 28 ((ArrN.oc 256 .u8 x0.Split.Of) ++ (([.d (.int .i64 x0.Split.Many), .d (.sl false 2 (x0.Counts.map (Arr2.dc .i64))), .d (.sl false 4 (x0.States.map c_api_State))] : List OC))))], []⟩) (fun t hm => One.step rfl (.on rfl rfl hm.s1 c_684) (OpT.loadBox (i := 0) rfl (dl rfl rfl) Try.underlying3 rfl hm.s0 hm.o0 rfl rfl)) (Ct.met_of rfl rfl) ?_
          refine DG.step (c := ⟨some 72, .bool ((v_685.length : Int) != x0.Split.Many), [(68, .int .i64 (v_685.length : Int)), (71, .int .i64 x0.Split.Many), (62, .bool (decide (v_681 ≥ (512 : Int))))], [], []⟩) (fun t hm => One.step rfl (.on rfl rfl hm.s2 c_684) (OpT.int2 rfl rfl (dl rfl rfl) hm.s0 hm.s1 rfl)) (Ct.met_of rfl rfl) ?_
          refine DG.step (c := ⟨some 73, .bool ((v_685.length : Int) != x0.Split.Many), [(62, .bool (decide (v_681 ≥ (512 : Int)))), (72, .bool ((v_685.length : Int) != x0.Split.Many))], [], []⟩) (fun t hm => One.step rfl (.free rfl) (OpT.pickF rfl (dl rfl rfl) hm.s0 c_684 hm.s1 rfl)) (Ct.met_of rfl rfl) ?_
          refine DG.fin (s1 := ⟨[(2, .ptr b2_1 0), (3, .ptr b3_1 0), (5, .int .i64 x5_1_8), (6, .int .i64 x6_1_9), (55, .ptr b3_1 (0 + 2)), (56, .sl false 1 (x1.Rule.map (cI .i64))), (57, .int .i64 x6_1_9), (58, .ref [.int .i64 v_681]), (59, .int .i64 v_681), (60, .bool (decide (v_681 ≥ (512 : Int)))), (63, .ptr b3_1 (0 + 3)), (64, .sl false 1 (x1.Next.map (cL 2 c_api_Move))), (65, .int .i64 x6_1_9), (66, .ref [.sl false 2 (v_685.map c_api_Move)]), (67, .sl false 2 (v_685.map c_api_Move)), (68, .int .i64 (v_685.length : Int)), (69, .ptr b2_1 (0 + 0)), (70, .ptr b2_1 (0 + 0 + 256)), (71, .int .i64 x0.Split.Many), (72, .bool ((v_685.length : Int) != x0.Split.Many)), (73, .bool ((v_685.length : Int) != x0.Split.Many))], [.box b2_1 28 ((ArrN.oc 256 .u8 x0.Split.Of) ++ (([.d (.int .i64 x0.Split.Many), .d (.sl false 2 (x0.Counts.map (Arr2.dc .i64))), .d (.sl false 4 (x0.States.map c_api_State))] : List OC))), .box b3_1 59 [.d (.sl false 1 (x1.L.map (cI .i64))), .d (.sl false 1 (x1.R.map (cI .i64))), .d (.sl false 1 (x1.Rule.map (cI .i64))), .d (.sl false 1 (x1.Next.map (cL 2 c_api_Move)))]]⟩) (ms := [0, 1, 0, 7, 15, 31, 63, 127, 255, 127, 1023, 2047, 4095, 8191, 16383, 32767, 65535, 32767, 262143, 524287, 1048575, 32767, 2129919, 6324223, 16777215, 33554431]) TryMixed rfl (by kernel_rfl) (by kernel_rfl) (by kernel_rfl) (.cons rfl (.cons rfl (.cons rfl (.cons rfl (.cons rfl (.cons rfl (.cons rfl (.cons rfl (.cons rfl (.cons rfl (.cons rfl (.cons rfl (.cons rfl (.cons rfl (.cons rfl (.cons rfl (.cons rfl (.cons rfl (.cons rfl (.cons rfl (.cons rfl (.nil _)))))))))))))))))))))) rfl (fun u hu => (thenS_normal (T.by_turn hu ?_)))
          rcases bif_some h with ⟨c_687, h⟩ | ⟨c_687, h⟩
          · refine T.condT rfl c_687 ?_
            refine T.by_turn ?_ (raddleref11_state_j2_T K h)
            exact Turn.rp (.nil _) (.n _)
          · refine T.condF rfl c_687 ?_
            refine T.skip (thenS_normal ?_)
            refine T.seq ?_
            refine T.regionL ?_
            refine asg rfl rfl rfl rfl rfl ?_
            refine TL'.nil (thenS_normal ?_)
            refine T.block ?_
            refine T.loop ?_
            refine TL.by_turn ?_ (raddleref11_state_l3_T K (raddleref11_state_l1 K k) ih K x5_1_8 x6_1_9 (0 : Int) x1 x6_1_9 v_681 v_681 (decide (v_681 ≥ (512 : Int))) x6_1_9 v_685 v_685 (v_685.length : Int) x0 ((v_685.length : Int) != x0.Split.Many) b2_1 b3_1 h)
            exact Turn.rp (.cons rfl (.cons rfl (.cons rfl (.cons rfl (.cons rfl (.cons rfl (.cons rfl (.cons rfl (.cons rfl (.cons rfl (.cons rfl (.cons rfl (.cons rfl (.cons rfl (.cons rfl (.cons rfl (.cons rfl (.cons rfl (.cons rfl (.cons rfl (.cons rfl (.nil _)))))))))))))))))))))) (.c .z (.c .z (.n _)))
    · refine T.condF rfl c_673 ?_
      refine T.exit (thenS_exit (thenS_exit (inBlock_exit (thenS_normal ?_))))
      refine T.seq ?_
      refine T.regionL ?_
      refine asg rfl rfl rfl rfl rfl ?_
      refine TL'.nil (thenS_normal ?_)
      refine T.ret ?_
      exact Fin.done (.cons _ _ _ _ (.tmp 4 _ rfl) .nil) (by cases h; exact ⟨rfl, rfl⟩)

theorem raddleref11_state_T (K : Nat) {x0 : api_Auto} {x1 : api_State} {r : Bool} (h : raddleref11_state K x0 x1 = some r) : CallR Try.prog 42 [.agg ((ArrN.dc 256 .u8 x0.Split.Of) ++ (([.int .i64 x0.Split.Many, .sl false 2 (x0.Counts.map (Arr2.dc .i64)), .sl false 4 (x0.States.map c_api_State)] : List DC))), .agg [.sl false 1 (x1.L.map (cI .i64)), .sl false 1 (x1.R.map (cI .i64)), .sl false 1 (x1.Rule.map (cI .i64)), .sl false 1 (x1.Next.map (cL 2 c_api_Move))]] [] (.bool r) := by
  refine CallT.intro Try.func42 rfl (Nat.le_of_ble_eq_true rfl) ?_
  show T Try.prog 96 (Code.at [] (codeOf Try.f42)) ⟨paramSlots 0 [.agg ((ArrN.dc 256 .u8 x0.Split.Of) ++ (([.int .i64 x0.Split.Many, .sl false 2 (x0.Counts.map (Arr2.dc .i64)), .sl false 4 (x0.States.map c_api_State)] : List DC))), .agg [.sl false 1 (x1.L.map (cI .i64)), .sl false 1 (x1.R.map (cI .i64)), .sl false 1 (x1.Rule.map (cI .i64)), .sl false 1 (x1.Next.map (cL 2 c_api_Move))]], []⟩ (raddleref11_state_q r)
  unfold raddleref11_state at h
  refine T.seq ?_
  refine T.regionL ?_
  refine sp rfl (OpT.boxAgg rfl (dl rfl rfl) rfl (fun b_660 => ?_))
  refine sp rfl (OpT.boxAgg rfl (dl rfl rfl) rfl (fun b_661 => ?_))
  refine asg rfl rfl rfl rfl rfl ?_
  refine TL'.nil (thenS_normal ?_)
  refine T.seq ?_
  refine T.regionL ?_
  refine sp rfl (OpT.fieldPtr rfl (dl rfl rfl) Try.underlying59 rfl i56 (by decide) rfl ?_)
  refine sp rfl (OpT.loadBox (i := 0) rfl (dl rfl rfl) Try.underlying56 rfl rfl rfl rfl ?_)
  refine sp rfl (OpT.lenSlM (xs := x1.R) (f := (cI .i64)) rfl (dl rfl rfl) Try.underlying56 rfl ?_)
  obtain ⟨v_662, e_663, h⟩ := bind_some h
  refine sp rfl (OpT.callPA rfl (dl rfl rfl) Try.func50 rfl rfl (Args.cons rfl Args.nil) (CallR.nil (raddleref11_Codes_T K e_663)) ?_)
  refine asg rfl rfl rfl rfl rfl ?_
  refine TL'.nil (thenS_normal ?_)
  refine T.seq ?_
  refine T.seq ?_
  refine T.regionL ?_
  refine mv rfl rfl rfl rfl rfl ?_
  refine sp rfl (OpT.int2 rfl rfl (dl rfl rfl) rfl rfl ?_)
  refine mv rfl rfl rfl rfl rfl ?_
  rcases bif_some h with ⟨c_664, h⟩ | ⟨c_664, h⟩
  · refine TL'.passU (.off _ _ _ _ rfl rfl rfl c_664) (dl rfl rfl) ?_
    refine TL'.passU (.off _ _ _ _ rfl rfl rfl c_664) (dl rfl rfl) ?_
    refine TL'.passU (.off _ _ _ _ rfl rfl rfl c_664) (dl rfl rfl) ?_
    refine TL'.passU (.off _ _ _ _ rfl rfl rfl c_664) (dl rfl rfl) ?_
    refine sp rfl (OpT.pickT rfl (dl rfl rfl) rfl c_664 rfl ?_)
    refine mv rfl rfl rfl rfl rfl ?_
    refine TL'.passU (.off _ _ _ _ rfl rfl rfl rfl) (dl rfl rfl) ?_
    refine TL'.passU (.off _ _ _ _ rfl rfl rfl rfl) (dl rfl rfl) ?_
    refine TL'.passU (.off _ _ _ _ rfl rfl rfl rfl) (dl rfl rfl) ?_
    refine TL'.passU (.off _ _ _ _ rfl rfl rfl rfl) (dl rfl rfl) ?_
    refine TL'.passU (.off _ _ _ _ rfl rfl rfl rfl) (dl rfl rfl) ?_
    refine TL'.passU (.off _ _ _ _ rfl rfl rfl rfl) (dl rfl rfl) ?_
    refine TL'.passU (.off _ _ _ _ rfl rfl rfl rfl) (dl rfl rfl) ?_
    refine sp rfl (OpT.pickT rfl (dl rfl rfl) rfl rfl rfl ?_)
    refine mv rfl rfl rfl rfl rfl ?_
    refine TL'.passU (.off _ _ _ _ rfl rfl rfl rfl) (dl rfl rfl) ?_
    refine TL'.passU (.off _ _ _ _ rfl rfl rfl rfl) (dl rfl rfl) ?_
    refine TL'.passU (.off _ _ _ _ rfl rfl rfl rfl) (dl rfl rfl) ?_
    refine TL'.passU (.off _ _ _ _ rfl rfl rfl rfl) (dl rfl rfl) ?_
    refine TL'.passU (.off _ _ _ _ rfl rfl rfl rfl) (dl rfl rfl) ?_
    refine sp rfl (OpT.pickT rfl (dl rfl rfl) rfl rfl rfl ?_)
    refine mv rfl rfl rfl rfl rfl ?_
    refine TL'.passU (.off _ _ _ _ rfl rfl rfl rfl) (dl rfl rfl) ?_
    refine TL'.passU (.off _ _ _ _ rfl rfl rfl rfl) (dl rfl rfl) ?_
    refine TL'.passU (.off _ _ _ _ rfl rfl rfl rfl) (dl rfl rfl) ?_
    refine TL'.passU (.off _ _ _ _ rfl rfl rfl rfl) (dl rfl rfl) ?_
    refine TL'.passU (.off _ _ _ _ rfl rfl rfl rfl) (dl rfl rfl) ?_
    refine sp rfl (OpT.pickT rfl (dl rfl rfl) rfl rfl rfl ?_)
    refine TL'.nil (thenS_normal ?_)
    refine T.condT rfl rfl ?_
    refine T.by_turn ?_ (raddleref11_state_j0_T K h)
    exact Turn.rp (.nil _) (.n _)
  · refine TL'.step (.on rfl rfl rfl c_664) (OpT.fieldPtr rfl (dl rfl rfl) Try.underlying59 rfl i56 (by decide) rfl ?_)
    refine TL'.step (.on rfl rfl rfl c_664) (OpT.loadBox (i := 0) rfl (dl rfl rfl) Try.underlying56 rfl rfl rfl rfl ?_)
    obtain ⟨v_665, e_666, h⟩ := bind_some h
    refine TL'.step (.on rfl rfl rfl c_664) (OpT.callPA rfl (dl rfl rfl) Try.func61 rfl rfl (Args.cons rfl (Args.cons rfl Args.nil)) (CallR.nil (raddleref11_rises_T K (flx0 := false) e_666)) ?_)
    refine TL'.step (.on rfl rfl rfl c_664) (OpT.not rfl (dl rfl rfl) rfl ?_)
    refine sp rfl (OpT.pickF rfl (dl rfl rfl) rfl c_664 rfl ?_)
    refine mv rfl rfl rfl rfl rfl ?_
    rcases bif_some h with ⟨c_667, h⟩ | ⟨c_667, h⟩
    · refine TL'.passU (.off _ _ _ _ rfl rfl rfl c_667) (dl rfl rfl) ?_
      refine TL'.passU (.off _ _ _ _ rfl rfl rfl c_667) (dl rfl rfl) ?_
      refine TL'.passU (.off _ _ _ _ rfl rfl rfl c_667) (dl rfl rfl) ?_
      refine TL'.passU (.off _ _ _ _ rfl rfl rfl c_667) (dl rfl rfl) ?_
      refine TL'.passU (.off _ _ _ _ rfl rfl rfl c_667) (dl rfl rfl) ?_
      refine TL'.passU (.off _ _ _ _ rfl rfl rfl c_667) (dl rfl rfl) ?_
      refine TL'.passU (.off _ _ _ _ rfl rfl rfl c_667) (dl rfl rfl) ?_
      refine sp rfl (OpT.pickT rfl (dl rfl rfl) rfl c_667 rfl ?_)
      refine mv rfl rfl rfl rfl rfl ?_
      refine TL'.passU (.off _ _ _ _ rfl rfl rfl rfl) (dl rfl rfl) ?_
      refine TL'.passU (.off _ _ _ _ rfl rfl rfl rfl) (dl rfl rfl) ?_
      refine TL'.passU (.off _ _ _ _ rfl rfl rfl rfl) (dl rfl rfl) ?_
      refine TL'.passU (.off _ _ _ _ rfl rfl rfl rfl) (dl rfl rfl) ?_
      refine TL'.passU (.off _ _ _ _ rfl rfl rfl rfl) (dl rfl rfl) ?_
      refine sp rfl (OpT.pickT rfl (dl rfl rfl) rfl rfl rfl ?_)
      refine mv rfl rfl rfl rfl rfl ?_
      refine TL'.passU (.off _ _ _ _ rfl rfl rfl rfl) (dl rfl rfl) ?_
      refine TL'.passU (.off _ _ _ _ rfl rfl rfl rfl) (dl rfl rfl) ?_
      refine TL'.passU (.off _ _ _ _ rfl rfl rfl rfl) (dl rfl rfl) ?_
      refine TL'.passU (.off _ _ _ _ rfl rfl rfl rfl) (dl rfl rfl) ?_
      refine TL'.passU (.off _ _ _ _ rfl rfl rfl rfl) (dl rfl rfl) ?_
      refine sp rfl (OpT.pickT rfl (dl rfl rfl) rfl rfl rfl ?_)
      refine TL'.nil (thenS_normal ?_)
      refine T.condT rfl rfl ?_
      refine T.by_turn ?_ (raddleref11_state_j0_T K h)
      exact Turn.rp (.nil _) (.n _)
    · refine TL'.step (.on rfl rfl rfl c_667) (OpT.fieldPtr rfl (dl rfl rfl) Try.underlying59 rfl i56 (by decide) rfl ?_)
      refine TL'.step (.on rfl rfl rfl c_667) (OpT.loadBox (i := 0) rfl (dl rfl rfl) Try.underlying56 rfl rfl rfl rfl ?_)
      refine TL'.step (.on rfl rfl rfl c_667) (OpT.fieldPtr rfl (dl rfl rfl) Try.underlying28 rfl i25 (by decide) rfl ?_)
      refine TL'.step (.on rfl rfl rfl c_667) (OpT.loadBox (i := 1) rfl (dl rfl rfl) Try.underlying25 rfl rfl rfl rfl ?_)
      refine TL'.step (.on rfl rfl rfl c_667) (OpT.lenSlM (xs := x0.Counts) (f := (Arr2.dc .i64)) rfl (dl rfl rfl) Try.underlying25 rfl ?_)
      obtain ⟨v_668, e_669, h⟩ := bind_some h
      refine TL'.step (.on rfl rfl rfl c_667) (OpT.callPA rfl (dl rfl rfl) Try.func61 rfl rfl (Args.cons rfl (Args.cons rfl Args.nil)) (CallR.nil (raddleref11_rises_T K (flx0 := false) e_669)) ?_)
      refine TL'.step (.on rfl rfl rfl c_667) (OpT.not rfl (dl rfl rfl) rfl ?_)
      refine sp rfl (OpT.pickF rfl (dl rfl rfl) rfl c_667 rfl ?_)
      refine mv rfl rfl rfl rfl rfl ?_
      rcases bif_some h with ⟨c_670, h⟩ | ⟨c_670, h⟩
      · refine TL'.passU (.off _ _ _ _ rfl rfl rfl c_670) (dl rfl rfl) ?_
        refine TL'.passU (.off _ _ _ _ rfl rfl rfl c_670) (dl rfl rfl) ?_
        refine TL'.passU (.off _ _ _ _ rfl rfl rfl c_670) (dl rfl rfl) ?_
        refine TL'.passU (.off _ _ _ _ rfl rfl rfl c_670) (dl rfl rfl) ?_
        refine TL'.passU (.off _ _ _ _ rfl rfl rfl c_670) (dl rfl rfl) ?_
        refine sp rfl (OpT.pickT rfl (dl rfl rfl) rfl c_670 rfl ?_)
        refine mv rfl rfl rfl rfl rfl ?_
        refine TL'.passU (.off _ _ _ _ rfl rfl rfl rfl) (dl rfl rfl) ?_
        refine TL'.passU (.off _ _ _ _ rfl rfl rfl rfl) (dl rfl rfl) ?_
        refine TL'.passU (.off _ _ _ _ rfl rfl rfl rfl) (dl rfl rfl) ?_
        refine TL'.passU (.off _ _ _ _ rfl rfl rfl rfl) (dl rfl rfl) ?_
        refine TL'.passU (.off _ _ _ _ rfl rfl rfl rfl) (dl rfl rfl) ?_
        refine sp rfl (OpT.pickT rfl (dl rfl rfl) rfl rfl rfl ?_)
        refine TL'.nil (thenS_normal ?_)
        refine T.condT rfl rfl ?_
        refine T.by_turn ?_ (raddleref11_state_j0_T K h)
        exact Turn.rp (.nil _) (.n _)
      · refine TL'.step (.on rfl rfl rfl c_670) (OpT.fieldPtr rfl (dl rfl rfl) Try.underlying59 rfl i56 (by decide) rfl ?_)
        refine TL'.step (.on rfl rfl rfl c_670) (OpT.loadBox (i := 0) rfl (dl rfl rfl) Try.underlying56 rfl rfl rfl rfl ?_)
        refine TL'.step (.on rfl rfl rfl c_670) (OpT.lenSlM (xs := x1.Rule) (f := (cI .i64)) rfl (dl rfl rfl) Try.underlying56 rfl ?_)
        refine TL'.step (.on rfl rfl rfl c_670) (OpT.move rfl (dl rfl rfl) rfl ?_)
        refine TL'.step (.on rfl rfl rfl c_670) (OpT.int2 rfl rfl (dl rfl rfl) rfl rfl ?_)
        refine sp rfl (OpT.pickF rfl (dl rfl rfl) rfl c_670 rfl ?_)
        refine mv rfl rfl rfl rfl rfl ?_
        rcases bif_some h with ⟨c_671, h⟩ | ⟨c_671, h⟩
        · refine TL'.passU (.off _ _ _ _ rfl rfl rfl c_671) (dl rfl rfl) ?_
          refine TL'.passU (.off _ _ _ _ rfl rfl rfl c_671) (dl rfl rfl) ?_
          refine TL'.passU (.off _ _ _ _ rfl rfl rfl c_671) (dl rfl rfl) ?_
          refine TL'.passU (.off _ _ _ _ rfl rfl rfl c_671) (dl rfl rfl) ?_
          refine TL'.passU (.off _ _ _ _ rfl rfl rfl c_671) (dl rfl rfl) ?_
          refine sp rfl (OpT.pickT rfl (dl rfl rfl) rfl c_671 rfl ?_)
          refine TL'.nil (thenS_normal ?_)
          refine T.condT rfl rfl ?_
          refine T.by_turn ?_ (raddleref11_state_j0_T K h)
          exact Turn.rp (.nil _) (.n _)
        · refine TL'.step (.on rfl rfl rfl c_671) (OpT.fieldPtr rfl (dl rfl rfl) Try.underlying59 rfl i57 (by decide) rfl ?_)
          refine TL'.step (.on rfl rfl rfl c_671) (OpT.loadBox (i := 0) rfl (dl rfl rfl) Try.underlying57 rfl rfl rfl rfl ?_)
          refine TL'.step (.on rfl rfl rfl c_671) (OpT.lenSlM (xs := x1.Next) (f := (cL 2 c_api_Move)) rfl (dl rfl rfl) Try.underlying57 rfl ?_)
          refine TL'.step (.on rfl rfl rfl c_671) (OpT.move rfl (dl rfl rfl) rfl ?_)
          refine TL'.step (.on rfl rfl rfl c_671) (OpT.int2 rfl rfl (dl rfl rfl) rfl rfl ?_)
          refine sp rfl (OpT.pickF rfl (dl rfl rfl) rfl c_671 rfl ?_)
          refine TL'.nil (thenS_normal ?_)
          rcases bif_some h with ⟨c_672, h⟩ | ⟨c_672, h⟩
          · refine T.condT rfl c_672 ?_
            refine T.by_turn ?_ (raddleref11_state_j0_T K h)
            exact Turn.rp (.nil _) (.n _)
          · refine T.condF rfl c_672 ?_
            refine T.skip (thenS_normal ?_)
            refine T.seq ?_
            refine T.seq ?_
            refine T.regionL ?_
            refine asg rfl rfl rfl rfl rfl ?_
            refine TL'.nil (thenS_normal ?_)
            refine T.block ?_
            refine T.loop ?_
            refine TL.by_turn ?_ (raddleref11_state_l1_T K K v_662 (0 : Int) x0 x1 b_660 b_661 h)
            exact Turn.rp (.cons rfl (.cons rfl (.cons rfl (.cons rfl (.nil _))))) (.c (.s .z) (.c .z (.n _)))

abbrev raddleref11_Right_q (r : Bool) : Exit → St → Prop := retS Try.prog Try.f19 (fun y t => y = (.bool r) ∧ t = [])

abbrev raddleref11_Right_qs11 (r : Bool) : Exit → St → Prop := thenS (fun s' => T Try.prog 93 (Code.at [1, 1] (codeOf Try.f19)) s' ((raddleref11_Right_q r))) ((raddleref11_Right_q r))

abbrev raddleref11_Right_qs111 (r : Bool) : Exit → St → Prop := thenS (fun s' => T Try.prog 93 (Code.at [1, 1, 1] (codeOf Try.f19)) s' ((raddleref11_Right_q r))) ((raddleref11_Right_q r))

abbrev raddleref11_Right_qb0x111 (r : Bool) : Exit → St → Prop := inBlockS 0 ((raddleref11_Right_qs111 r))

abbrev raddleref11_Right_ql11010 (r : Bool) : Exit → St → Prop := thenS (fun s' => TL Try.prog 93 (Code.at [1, 1, 0, 1, 0, 0] (codeOf Try.f19)) s' ((raddleref11_Right_qb0x111 r))) ((raddleref11_Right_qb0x111 r))

abbrev raddleref11_Right_qs11010011 (r : Bool) : Exit → St → Prop := thenS (fun s' => T Try.prog 93 (Code.at [1, 1, 0, 1, 0, 0, 1, 1] (codeOf Try.f19)) s' ((raddleref11_Right_ql11010 r))) ((raddleref11_Right_ql11010 r))

abbrev raddleref11_Right_qb1_0x11010011 (r : Bool) : Exit → St → Prop := inBlockS 1 ((raddleref11_Right_qs11010011 r))

abbrev raddleref11_Right_qs1111 (r : Bool) : Exit → St → Prop := thenS (fun s' => T Try.prog 93 (Code.at [1, 1, 1, 1] (codeOf Try.f19)) s' ((raddleref11_Right_q r))) ((raddleref11_Right_q r))

abbrev raddleref11_Right_qb2x1111 (r : Bool) : Exit → St → Prop := inBlockS 2 ((raddleref11_Right_qs1111 r))

theorem raddleref11_Right_j0_T {r : Bool} (K : Nat) (h : raddleref11_Right_j0 K = some r) : T Try.prog 93 (Code.at [1, 0, 1, 0] (codeOf Try.f19)) ⟨[], []⟩ (raddleref11_Right_qs11 r) := by
  unfold raddleref11_Right_j0 at h
  refine T.seq ?_
  refine T.regionL ?_
  refine asg rfl rfl rfl rfl rfl ?_
  refine TL'.nil (thenS_normal ?_)
  refine T.ret (thenS_ret ?_)
  exact Fin.done (.cons _ _ _ _ (.tmp 2 _ rfl) .nil) (by cases h; exact ⟨rfl, rfl⟩)

theorem raddleref11_Right_j2_T {r : Bool} (K : Nat) (h : raddleref11_Right_j2 K = some r) : T Try.prog 93 (Code.at [1, 1, 0, 1, 0, 0, 1, 0, 0, 1, 1, 0] (codeOf Try.f19)) ⟨[], []⟩ (raddleref11_Right_qb1_0x11010011 r) := by
  unfold raddleref11_Right_j2 at h
  refine T.seq ?_
  refine T.regionL ?_
  refine asg rfl rfl rfl rfl rfl ?_
  refine TL'.nil (thenS_normal ?_)
  refine T.ret (inBlock_ret (thenS_ret (thenS_ret (inBlock_ret (thenS_ret ?_)))))
  exact Fin.done (.cons _ _ _ _ (.tmp 2 _ rfl) .nil) (by cases h; exact ⟨rfl, rfl⟩)

theorem raddleref11_Right_l3_T {r : Bool} (K : Nat) : ∀ (k : Nat), ∀ (x5_3_4 : Int) (x0 : api_Auto) (b1_3 : Nat), raddleref11_Right_l3 K k x5_3_4 x0 = some r → TL Try.prog 93 (Code.at [1, 1, 1, 0, 1, 0, 0] (codeOf Try.f19)) ⟨[(1, .ptr b1_3 0), (5, .int .i64 x5_3_4)], [.box b1_3 28 ((ArrN.oc 256 .u8 x0.Split.Of) ++ (([.d (.int .i64 x0.Split.Many), .d (.sl false 2 (x0.Counts.map (Arr2.dc .i64))), .d (.sl false 4 (x0.States.map c_api_State))] : List OC)))]⟩ (raddleref11_Right_qb2x1111 r) := by
  intro k
  induction k with
  | zero =>
    intro x5_3_4 x0 b1_3 h
    cases (show (none : Option Bool) = some r from h)
  | succ k ih =>
    intro x5_3_4 x0 b1_3 h
    rw [raddleref11_Right_l3] at h
    refine TL.round ?_
    refine T.seq ?_
    refine T.seq ?_
    refine T.regionL ?_
    refine mv rfl rfl rfl rfl rfl ?_
    refine sp rfl (OpT.fieldPtr rfl (dl rfl rfl) Try.underlying28 rfl i26 (by decide) rfl ?_)
    refine sp rfl (OpT.loadBox (i := 0) rfl (dl rfl rfl) Try.underlying26 rfl rfl rfl rfl ?_)
    refine sp rfl (OpT.lenSlM (xs := x0.States) (f := c_api_State) rfl (dl rfl rfl) Try.underlying26 rfl ?_)
    refine sp rfl (OpT.int2 rfl rfl (dl rfl rfl) rfl rfl ?_)
    refine TL'.nil (thenS_normal ?_)
    rcases bif_some h with ⟨c_290, h⟩ | ⟨c_290, h⟩
    · refine T.condT rfl c_290 ?_
      refine T.skip (thenS_normal ?_)
      refine T.seq ?_
      refine T.block ?_
      refine T.seq ?_
      refine DG.start ?_
      refine DG.step (c := ⟨some 85, .agg ((ArrN.dc 256 .u8 x0.Split.Of) ++ (([.int .i64 x0.Split.Many, .sl false 2 (x0.Counts.map (Arr2.dc .i64)), .sl false 4 (x0.States.map c_api_State)] : List DC))), [(1, .ptr b1_3 0)], [(0, .box b1_3 28 ((ArrN.oc 256 .u8 x0.Split.Of) ++ (([.d (.int .i64 x0.Split.Many), .d (.sl false 2 (x0.Counts.map (Arr2.dc .i64))), .d (.sl false 4 (x0.States.map c_api_State))] : List OC))))], []⟩) (fun t hm => One.step rfl (.free rfl) (OpT.loadBoxAgg (i := 0) (l := ((ArrN.dc 256 .u8 x0.Split.Of) ++ (([.int .i64 x0.Split.Many, .sl false 2 (x0.Counts.map (Arr2.dc .i64)), .sl false 4 (x0.States.map c_api_State)] : List DC)))) rfl (dl rfl rfl) Try.underlying28 rfl i28 hm.s0 hm.o0 rfl rfl rfl)) (Ct.met_of rfl rfl) ?_
      refine DG.step (c := ⟨some 86, .ptr b1_3 (0 + 258), [(1, .ptr b1_3 0)], [], []⟩) (fun t hm => One.step rfl (.free rfl) (OpT.fieldPtr rfl (dl rfl rfl) Try.underlying28 rfl i26 (by decide) hm.s0 rfl)) (Ct.met_of rfl rfl) ?_
      refine DG.step (c := ⟨some 87, .sl false 4 (x0.States.map c_api_State), [(86, .ptr b1_3 (0 + 258))], [(0, .box b1_3 28 ((ArrN.oc 256 .u8 x0.Split.Of) ++ (([.d (.int .i64 x0.Split.Many), .d (.sl false 2 (x0.Counts.map (Arr2.dc .i64))), .d (.sl false 4 (x0.States.map c_api_State))] : List OC))))], []⟩) (fun t hm => One.step rfl (.free rfl) (OpT.loadBox (i := 0) rfl (dl rfl rfl) Try.underlying26 rfl hm.s0 hm.o0 rfl rfl)) (Ct.met_of rfl rfl) ?_
      refine DG.mv rfl rfl rfl rfl rfl rfl ?_
      obtain ⟨v_296, e_297, h⟩ := bind_some h
      refine DG.step (c := ⟨some 89, .ref [.sl false 1 (v_296.L.map (cI .i64)), .sl false 1 (v_296.R.map (cI .i64)), .sl false 1 (v_296.Rule.map (cI .i64)), .sl false 1 (v_296.Next.map (cL 2 c_api_Move))], [(87, .sl false 4 (x0.States.map c_api_State)), (88, .int .i64 x5_3_4)], [], []⟩) (fun t hm => One.step rfl (.free rfl) (OpT.indexSlM (xs := x0.States) (f := c_api_State) (v := v_296) rfl (dl rfl rfl) Try.underlying26 i59 hm.s0 hm.s1 e_297 rfl)) (Ct.met_of rfl rfl) ?_
      refine DG.step (c := ⟨some 90, .agg [.sl false 1 (v_296.L.map (cI .i64)), .sl false 1 (v_296.R.map (cI .i64)), .sl false 1 (v_296.Rule.map (cI .i64)), .sl false 1 (v_296.Next.map (cL 2 c_api_Move))], [(89, .ref [.sl false 1 (v_296.L.map (cI .i64)), .sl false 1 (v_296.R.map (cI .i64)), .sl false 1 (v_296.Rule.map (cI .i64)), .sl false 1 (v_296.Next.map (cL 2 c_api_Move))])], [], []⟩) (fun t hm => One.step rfl (.free rfl) (OpT.loadRefAgg rfl (dl rfl rfl) Try.underlying59 rfl i59 hm.s0 (Nat.le_of_ble_eq_true rfl) rfl)) (Ct.met_of rfl rfl) ?_
      obtain ⟨v_298, e_299, h⟩ := bind_some h
      refine DG.step (c := ⟨some 91, .bool v_298, [(85, .agg ((ArrN.dc 256 .u8 x0.Split.Of) ++ (([.int .i64 x0.Split.Many, .sl false 2 (x0.Counts.map (Arr2.dc .i64)), .sl false 4 (x0.States.map c_api_State)] : List DC)))), (90, .agg [.sl false 1 (v_296.L.map (cI .i64)), .sl false 1 (v_296.R.map (cI .i64)), .sl false 1 (v_296.Rule.map (cI .i64)), .sl false 1 (v_296.Next.map (cL 2 c_api_Move))])], [], []⟩) (fun t hm => One.step rfl (.free rfl) (OpT.callPA rfl (dl rfl rfl) Try.func42 rfl rfl (Args.cons hm.s0 (Args.cons hm.s1 Args.nil)) (CallR.nil (raddleref11_state_T K e_299)) rfl)) (Ct.met_of rfl rfl) ?_
      refine DG.step (c := ⟨some 92, .bool (!v_298), [(91, .bool v_298)], [], []⟩) (fun t hm => One.step rfl (.free rfl) (OpT.not rfl (dl rfl rfl) hm.s0 rfl)) (Ct.met_of rfl rfl) ?_
      refine DG.fin (s1 := ⟨[(1, .ptr b1_3 0), (5, .int .i64 x5_3_4), (92, .bool (!v_298))], [.box b1_3 28 ((ArrN.oc 256 .u8 x0.Split.Of) ++ (([.d (.int .i64 x0.Split.Many), .d (.sl false 2 (x0.Counts.map (Arr2.dc .i64))), .d (.sl false 4 (x0.States.map c_api_State))] : List OC)))]⟩) (ms := [0, 0, 2, 0, 14, 30, 63, 127]) TryMixed rfl (by kernel_rfl) (by kernel_rfl) (by kernel_rfl) (.cons rfl (.cons rfl (.cons rfl (.nil _)))) rfl (fun u hu => (thenS_normal (T.by_turn hu ?_)))
      rcases bif_some h with ⟨c_300, h⟩ | ⟨c_300, h⟩
      · refine T.condT rfl c_300 ?_
        refine T.seq ?_
        refine T.regionL ?_
        refine asg rfl rfl rfl rfl rfl ?_
        refine TL'.nil (thenS_normal ?_)
        refine T.ret (inBlock_ret (thenS_ret (thenS_ret (inBlock_ret (thenS_ret ?_)))))
        exact Fin.done (.cons _ _ _ _ (.tmp 2 _ rfl) .nil) (by cases h; exact ⟨rfl, rfl⟩)
      · refine T.condF rfl c_300 ?_
        refine T.skip (inBlock_normal (thenS_normal ?_))
        refine T.regionL ?_
        refine mv rfl rfl rfl rfl rfl ?_
        refine sp rfl (OpT.int2 rfl rfl (dl rfl rfl) rfl rfl ?_)
        refine asg rfl rfl rfl rfl rfl ?_
        refine TL'.nil (thenS_normal ?_)
        refine TL.by_turn ?_ (ih (IntKind.i64.wrap (x5_3_4 + (1 : Int))) x0 b1_3 h)
        exact Turn.rp (.cons rfl (.cons rfl (.nil _))) (.c .z (.n _))
    · refine T.condF rfl c_290 ?_
      refine T.exit (thenS_exit (thenS_exit (inBlock_exit (thenS_normal ?_))))
      refine T.seq ?_
      refine T.regionL ?_
      refine asg rfl rfl rfl rfl rfl ?_
      refine TL'.nil (thenS_normal ?_)
      refine T.ret ?_
      exact Fin.done (.cons _ _ _ _ (.tmp 2 _ rfl) .nil) (by cases h; exact ⟨rfl, rfl⟩)

theorem raddleref11_Right_l1_T {r : Bool} (K : Nat) : ∀ (k : Nat), ∀ (x3_1_4 : Int) (x0 : api_Auto) (b1_1 : Nat), raddleref11_Right_l1 K k x3_1_4 x0 = some r → TL Try.prog 93 (Code.at [1, 1, 0, 1, 0, 0] (codeOf Try.f19)) ⟨[(1, .ptr b1_1 0), (3, .int .i64 x3_1_4)], [.box b1_1 28 ((ArrN.oc 256 .u8 x0.Split.Of) ++ (([.d (.int .i64 x0.Split.Many), .d (.sl false 2 (x0.Counts.map (Arr2.dc .i64))), .d (.sl false 4 (x0.States.map c_api_State))] : List OC)))]⟩ (raddleref11_Right_qb0x111 r) := by
  intro k
  induction k with
  | zero =>
    intro x3_1_4 x0 b1_1 h
    cases (show (none : Option Bool) = some r from h)
  | succ k ih =>
    intro x3_1_4 x0 b1_1 h
    rw [raddleref11_Right_l1] at h
    refine TL.round ?_
    refine T.seq ?_
    refine T.seq ?_
    refine T.regionL ?_
    refine mv rfl rfl rfl rfl rfl ?_
    refine sp rfl (OpT.fieldPtr rfl (dl rfl rfl) Try.underlying28 rfl i25 (by decide) rfl ?_)
    refine sp rfl (OpT.loadBox (i := 0) rfl (dl rfl rfl) Try.underlying25 rfl rfl rfl rfl ?_)
    refine sp rfl (OpT.lenSlM (xs := x0.Counts) (f := (Arr2.dc .i64)) rfl (dl rfl rfl) Try.underlying25 rfl ?_)
    refine sp rfl (OpT.int2 rfl rfl (dl rfl rfl) rfl rfl ?_)
    refine TL'.nil (thenS_normal ?_)
    rcases bif_some h with ⟨c_282, h⟩ | ⟨c_282, h⟩
    · refine T.condT rfl c_282 ?_
      refine T.skip (thenS_normal ?_)
      refine T.seq ?_
      refine T.block ?_
      refine T.seq ?_
      refine T.regionL ?_
      refine sp rfl (OpT.fieldPtr rfl (dl rfl rfl) Try.underlying28 rfl i25 (by decide) rfl ?_)
      refine sp rfl (OpT.loadBox (i := 0) rfl (dl rfl rfl) Try.underlying25 rfl rfl rfl rfl ?_)
      refine mv rfl rfl rfl rfl rfl ?_
      obtain ⟨v_283, e_284, h⟩ := bind_some h
      refine sp rfl (OpT.indexSlM (xs := x0.Counts) (f := (Arr2.dc .i64)) (v := v_283) rfl (dl rfl rfl) Try.underlying25 i42 rfl rfl e_284 ?_)
      refine sp rfl (OpT.loadRefAgg rfl (dl rfl rfl) Try.underlying42 rfl i42 rfl (Nat.le_of_ble_eq_true rfl) ?_)
      refine sp rfl (OpT.alloc' rfl (dl rfl rfl) i42 rfl (fun b_285 => ?_))
      refine sp rfl (OpT.storeAggTo (i := 0) (cells' := (Arr2.oc .i64 v_283)) rfl rfl i42 rfl rfl rfl rfl (Nat.le_of_ble_eq_true rfl) rfl ?_)
      refine TL'.nil (thenS_normal ?_)
      refine T.seq ?_
      refine T.regionL ?_
      refine sp rfl (OpT.indexPtr rfl (dl rfl rfl) Try.underlying42 i3 rfl rfl (by decide) (by decide) ?_)
      refine sp rfl (OpT.loadBox (i := 0) rfl (dl rfl rfl) Try.underlying3 rfl rfl rfl (Arr2.oc_get (k := .i64) (a := v_283) (pre := []) (post := []) (by decide) (by decide)) ?_)
      refine sp rfl (OpT.int2 rfl rfl (dl rfl rfl) rfl rfl ?_)
      refine mv rfl rfl rfl rfl rfl ?_
      rcases bif_some h with ⟨c_286, h⟩ | ⟨c_286, h⟩
      · refine TL'.passU (.off _ _ _ _ rfl rfl rfl c_286) (dl rfl rfl) ?_
        refine TL'.passU (.off _ _ _ _ rfl rfl rfl c_286) (dl rfl rfl) ?_
        refine TL'.passU (.off _ _ _ _ rfl rfl rfl c_286) (dl rfl rfl) ?_
        refine TL'.passU (.off _ _ _ _ rfl rfl rfl c_286) (dl rfl rfl) ?_
        refine TL'.passU (.off _ _ _ _ rfl rfl rfl c_286) (dl rfl rfl) ?_
        refine sp rfl (OpT.pickT rfl (dl rfl rfl) rfl c_286 rfl ?_)
        refine mv rfl rfl rfl rfl rfl ?_
        refine TL'.passU (.off _ _ _ _ rfl rfl rfl rfl) (dl rfl rfl) ?_
        refine TL'.passU (.off _ _ _ _ rfl rfl rfl rfl) (dl rfl rfl) ?_
        refine TL'.passU (.off _ _ _ _ rfl rfl rfl rfl) (dl rfl rfl) ?_
        refine sp rfl (OpT.pickT rfl (dl rfl rfl) rfl rfl rfl ?_)
        refine mv rfl rfl rfl rfl rfl ?_
        refine TL'.passU (.off _ _ _ _ rfl rfl rfl rfl) (dl rfl rfl) ?_
        refine TL'.passU (.off _ _ _ _ rfl rfl rfl rfl) (dl rfl rfl) ?_
        refine TL'.passU (.off _ _ _ _ rfl rfl rfl rfl) (dl rfl rfl) ?_
        refine sp rfl (OpT.pickT rfl (dl rfl rfl) rfl rfl rfl ?_)
        refine TL'.nil (thenS_normal ?_)
        refine T.condT rfl rfl ?_
        refine T.by_turn ?_ (raddleref11_Right_j2_T K h)
        exact Turn.rp (.nil _) (.n _)
      · refine TL'.step (.on rfl rfl rfl c_286) (OpT.indexPtr rfl (dl rfl rfl) Try.underlying42 i3 rfl rfl (by decide) (by decide) ?_)
        refine TL'.step (.on rfl rfl rfl c_286) (OpT.loadBox (i := 0) rfl (dl rfl rfl) Try.underlying3 rfl rfl rfl (Arr2.oc_get (k := .i64) (a := v_283) (pre := []) (post := []) (by decide) (by decide)) ?_)
        refine TL'.step (.on rfl rfl rfl c_286) (OpT.indexPtr rfl (dl rfl rfl) Try.underlying42 i3 rfl rfl (by decide) (by decide) ?_)
        refine TL'.step (.on rfl rfl rfl c_286) (OpT.loadBox (i := 0) rfl (dl rfl rfl) Try.underlying3 rfl rfl rfl (Arr2.oc_get (k := .i64) (a := v_283) (pre := []) (post := []) (by decide) (by decide)) ?_)
        refine TL'.step (.on rfl rfl rfl c_286) (OpT.int2 rfl rfl (dl rfl rfl) rfl rfl ?_)
        refine sp rfl (OpT.pickF rfl (dl rfl rfl) rfl c_286 rfl ?_)
        refine mv rfl rfl rfl rfl rfl ?_
        rcases bif_some h with ⟨c_287, h⟩ | ⟨c_287, h⟩
        · refine TL'.passU (.off _ _ _ _ rfl rfl rfl c_287) (dl rfl rfl) ?_
          refine TL'.passU (.off _ _ _ _ rfl rfl rfl c_287) (dl rfl rfl) ?_
          refine TL'.passU (.off _ _ _ _ rfl rfl rfl c_287) (dl rfl rfl) ?_
          refine sp rfl (OpT.pickT rfl (dl rfl rfl) rfl c_287 rfl ?_)
          refine mv rfl rfl rfl rfl rfl ?_
          refine TL'.passU (.off _ _ _ _ rfl rfl rfl rfl) (dl rfl rfl) ?_
          refine TL'.passU (.off _ _ _ _ rfl rfl rfl rfl) (dl rfl rfl) ?_
          refine TL'.passU (.off _ _ _ _ rfl rfl rfl rfl) (dl rfl rfl) ?_
          refine sp rfl (OpT.pickT rfl (dl rfl rfl) rfl rfl rfl ?_)
          refine TL'.nil (thenS_normal ?_)
          refine T.condT rfl rfl ?_
          refine T.by_turn ?_ (raddleref11_Right_j2_T K h)
          exact Turn.rp (.nil _) (.n _)
        · refine TL'.step (.on rfl rfl rfl c_287) (OpT.indexPtr rfl (dl rfl rfl) Try.underlying42 i3 rfl rfl (by decide) (by decide) ?_)
          refine TL'.step (.on rfl rfl rfl c_287) (OpT.loadBox (i := 0) rfl (dl rfl rfl) Try.underlying3 rfl rfl rfl (Arr2.oc_get (k := .i64) (a := v_283) (pre := []) (post := []) (by decide) (by decide)) ?_)
          refine TL'.step (.on rfl rfl rfl c_287) (OpT.int2 rfl rfl (dl rfl rfl) rfl rfl ?_)
          refine sp rfl (OpT.pickF rfl (dl rfl rfl) rfl c_287 rfl ?_)
          refine mv rfl rfl rfl rfl rfl ?_
          rcases bif_some h with ⟨c_288, h⟩ | ⟨c_288, h⟩
          · refine TL'.passU (.off _ _ _ _ rfl rfl rfl c_288) (dl rfl rfl) ?_
            refine TL'.passU (.off _ _ _ _ rfl rfl rfl c_288) (dl rfl rfl) ?_
            refine TL'.passU (.off _ _ _ _ rfl rfl rfl c_288) (dl rfl rfl) ?_
            refine sp rfl (OpT.pickT rfl (dl rfl rfl) rfl c_288 rfl ?_)
            refine TL'.nil (thenS_normal ?_)
            refine T.condT rfl rfl ?_
            refine T.by_turn ?_ (raddleref11_Right_j2_T K h)
            exact Turn.rp (.nil _) (.n _)
          · refine TL'.step (.on rfl rfl rfl c_288) (OpT.indexPtr rfl (dl rfl rfl) Try.underlying42 i3 rfl rfl (by decide) (by decide) ?_)
            refine TL'.step (.on rfl rfl rfl c_288) (OpT.loadBox (i := 0) rfl (dl rfl rfl) Try.underlying3 rfl rfl rfl (Arr2.oc_get (k := .i64) (a := v_283) (pre := []) (post := []) (by decide) (by decide)) ?_)
            refine TL'.step (.on rfl rfl rfl c_288) (OpT.int2 rfl rfl (dl rfl rfl) rfl rfl ?_)
            refine sp rfl (OpT.pickF rfl (dl rfl rfl) rfl c_288 rfl ?_)
            refine TL'.nil (thenS_normal ?_)
            rcases bif_some h with ⟨c_289, h⟩ | ⟨c_289, h⟩
            · refine T.condT rfl c_289 ?_
              refine T.by_turn ?_ (raddleref11_Right_j2_T K h)
              exact Turn.rp (.nil _) (.n _)
            · refine T.condF rfl c_289 ?_
              refine T.skip (inBlock_normal (thenS_normal ?_))
              refine T.regionL ?_
              refine mv rfl rfl rfl rfl rfl ?_
              refine sp rfl (OpT.int2 rfl rfl (dl rfl rfl) rfl rfl ?_)
              refine asg rfl rfl rfl rfl rfl ?_
              refine TL'.nil (thenS_normal ?_)
              refine TL.by_turn ?_ (ih (IntKind.i64.wrap (x3_1_4 + (1 : Int))) x0 b1_1 h)
              exact Turn.rp (.cons rfl (.cons rfl (.nil _))) (.c (.s .z) (.n _))
    · refine T.condF rfl c_282 ?_
      refine T.exit (thenS_exit (thenS_exit (inBlock_exit (thenS_normal ?_))))
      refine T.seq ?_
      refine T.seq ?_
      refine T.regionL ?_
      refine asg rfl rfl rfl rfl rfl ?_
      refine TL'.nil (thenS_normal ?_)
      refine T.block ?_
      refine T.loop ?_
      refine TL.by_turn ?_ (raddleref11_Right_l3_T K K (0 : Int) x0 b1_1 h)
      exact Turn.rp (.cons rfl (.cons rfl (.nil _))) (.c .z (.n _))

theorem raddleref11_Right_T (K : Nat) {x0 : api_Auto} {r : Bool} (h : raddleref11_Right K x0 = some r) : CallR Try.prog 19 [.agg ((ArrN.dc 256 .u8 x0.Split.Of) ++ (([.int .i64 x0.Split.Many, .sl false 2 (x0.Counts.map (Arr2.dc .i64)), .sl false 4 (x0.States.map c_api_State)] : List DC)))] [] (.bool r) := by
  refine CallT.intro Try.func19 rfl (Nat.le_of_ble_eq_true rfl) ?_
  show T Try.prog 93 (Code.at [] (codeOf Try.f19)) ⟨paramSlots 0 [.agg ((ArrN.dc 256 .u8 x0.Split.Of) ++ (([.int .i64 x0.Split.Many, .sl false 2 (x0.Counts.map (Arr2.dc .i64)), .sl false 4 (x0.States.map c_api_State)] : List DC)))], []⟩ (raddleref11_Right_q r)
  unfold raddleref11_Right at h
  refine T.seq ?_
  refine T.regionL ?_
  refine sp rfl (OpT.boxAgg rfl (dl rfl rfl) rfl (fun b_271 => ?_))
  refine asg rfl rfl rfl rfl rfl ?_
  refine TL'.nil (thenS_normal ?_)
  refine T.seq ?_
  refine T.seq ?_
  refine T.regionL ?_
  refine sp rfl (OpT.fieldPtr rfl (dl rfl rfl) Try.underlying28 rfl i24 (by decide) rfl ?_)
  refine sp rfl (OpT.loadBoxAgg (i := 0) (l := ((ArrN.dc 256 .u8 x0.Split.Of) ++ (([.int .i64 x0.Split.Many] : List DC)))) rfl (dl rfl rfl) Try.underlying24 rfl i24 rfl rfl rfl rfl ?_)
  obtain ⟨v_272, e_273, h⟩ := bind_some h
  refine sp rfl (OpT.callPA rfl (dl rfl rfl) Try.func41 rfl rfl (Args.cons rfl Args.nil) (CallR.nil (raddleref02_Right_T K e_273)) ?_)
  refine sp rfl (OpT.not rfl (dl rfl rfl) rfl ?_)
  refine mv rfl rfl rfl rfl rfl ?_
  rcases bif_some h with ⟨c_274, h⟩ | ⟨c_274, h⟩
  · refine TL'.passU (.off _ _ _ _ rfl rfl rfl c_274) (dl rfl rfl) ?_
    refine TL'.passU (.off _ _ _ _ rfl rfl rfl c_274) (dl rfl rfl) ?_
    refine TL'.passU (.off _ _ _ _ rfl rfl rfl c_274) (dl rfl rfl) ?_
    refine TL'.passU (.off _ _ _ _ rfl rfl rfl c_274) (dl rfl rfl) ?_
    refine sp rfl (OpT.pickT rfl (dl rfl rfl) rfl c_274 rfl ?_)
    refine mv rfl rfl rfl rfl rfl ?_
    refine TL'.passU (.off _ _ _ _ rfl rfl rfl rfl) (dl rfl rfl) ?_
    refine TL'.passU (.off _ _ _ _ rfl rfl rfl rfl) (dl rfl rfl) ?_
    refine TL'.passU (.off _ _ _ _ rfl rfl rfl rfl) (dl rfl rfl) ?_
    refine TL'.passU (.off _ _ _ _ rfl rfl rfl rfl) (dl rfl rfl) ?_
    refine sp rfl (OpT.pickT rfl (dl rfl rfl) rfl rfl rfl ?_)
    refine mv rfl rfl rfl rfl rfl ?_
    refine TL'.passU (.off _ _ _ _ rfl rfl rfl rfl) (dl rfl rfl) ?_
    refine TL'.passU (.off _ _ _ _ rfl rfl rfl rfl) (dl rfl rfl) ?_
    refine TL'.passU (.off _ _ _ _ rfl rfl rfl rfl) (dl rfl rfl) ?_
    refine TL'.passU (.off _ _ _ _ rfl rfl rfl rfl) (dl rfl rfl) ?_
    refine sp rfl (OpT.pickT rfl (dl rfl rfl) rfl rfl rfl ?_)
    refine mv rfl rfl rfl rfl rfl ?_
    refine TL'.passU (.off _ _ _ _ rfl rfl rfl rfl) (dl rfl rfl) ?_
    refine TL'.passU (.off _ _ _ _ rfl rfl rfl rfl) (dl rfl rfl) ?_
    refine TL'.passU (.off _ _ _ _ rfl rfl rfl rfl) (dl rfl rfl) ?_
    refine TL'.passU (.off _ _ _ _ rfl rfl rfl rfl) (dl rfl rfl) ?_
    refine TL'.passU (.off _ _ _ _ rfl rfl rfl rfl) (dl rfl rfl) ?_
    refine TL'.passU (.off _ _ _ _ rfl rfl rfl rfl) (dl rfl rfl) ?_
    refine TL'.passU (.off _ _ _ _ rfl rfl rfl rfl) (dl rfl rfl) ?_
    refine sp rfl (OpT.pickT rfl (dl rfl rfl) rfl rfl rfl ?_)
    refine mv rfl rfl rfl rfl rfl ?_
    refine TL'.passU (.off _ _ _ _ rfl rfl rfl rfl) (dl rfl rfl) ?_
    refine TL'.passU (.off _ _ _ _ rfl rfl rfl rfl) (dl rfl rfl) ?_
    refine TL'.passU (.off _ _ _ _ rfl rfl rfl rfl) (dl rfl rfl) ?_
    refine TL'.passU (.off _ _ _ _ rfl rfl rfl rfl) (dl rfl rfl) ?_
    refine TL'.passU (.off _ _ _ _ rfl rfl rfl rfl) (dl rfl rfl) ?_
    refine TL'.passU (.off _ _ _ _ rfl rfl rfl rfl) (dl rfl rfl) ?_
    refine TL'.passU (.off _ _ _ _ rfl rfl rfl rfl) (dl rfl rfl) ?_
    refine sp rfl (OpT.pickT rfl (dl rfl rfl) rfl rfl rfl ?_)
    refine TL'.nil (thenS_normal ?_)
    refine T.condT rfl rfl ?_
    refine T.by_turn ?_ (raddleref11_Right_j0_T K h)
    exact Turn.rp (.nil _) (.n _)
  · refine TL'.step (.on rfl rfl rfl c_274) (OpT.fieldPtr rfl (dl rfl rfl) Try.underlying28 rfl i25 (by decide) rfl ?_)
    refine TL'.step (.on rfl rfl rfl c_274) (OpT.loadBox (i := 0) rfl (dl rfl rfl) Try.underlying25 rfl rfl rfl rfl ?_)
    refine TL'.step (.on rfl rfl rfl c_274) (OpT.lenSlM (xs := x0.Counts) (f := (Arr2.dc .i64)) rfl (dl rfl rfl) Try.underlying25 rfl ?_)
    refine TL'.step (.on rfl rfl rfl c_274) (OpT.int2 rfl rfl (dl rfl rfl) rfl rfl ?_)
    refine sp rfl (OpT.pickF rfl (dl rfl rfl) rfl c_274 rfl ?_)
    refine mv rfl rfl rfl rfl rfl ?_
    rcases bif_some h with ⟨c_275, h⟩ | ⟨c_275, h⟩
    · refine TL'.passU (.off _ _ _ _ rfl rfl rfl c_275) (dl rfl rfl) ?_
      refine TL'.passU (.off _ _ _ _ rfl rfl rfl c_275) (dl rfl rfl) ?_
      refine TL'.passU (.off _ _ _ _ rfl rfl rfl c_275) (dl rfl rfl) ?_
      refine TL'.passU (.off _ _ _ _ rfl rfl rfl c_275) (dl rfl rfl) ?_
      refine sp rfl (OpT.pickT rfl (dl rfl rfl) rfl c_275 rfl ?_)
      refine mv rfl rfl rfl rfl rfl ?_
      refine TL'.passU (.off _ _ _ _ rfl rfl rfl rfl) (dl rfl rfl) ?_
      refine TL'.passU (.off _ _ _ _ rfl rfl rfl rfl) (dl rfl rfl) ?_
      refine TL'.passU (.off _ _ _ _ rfl rfl rfl rfl) (dl rfl rfl) ?_
      refine TL'.passU (.off _ _ _ _ rfl rfl rfl rfl) (dl rfl rfl) ?_
      refine sp rfl (OpT.pickT rfl (dl rfl rfl) rfl rfl rfl ?_)
      refine mv rfl rfl rfl rfl rfl ?_
      refine TL'.passU (.off _ _ _ _ rfl rfl rfl rfl) (dl rfl rfl) ?_
      refine TL'.passU (.off _ _ _ _ rfl rfl rfl rfl) (dl rfl rfl) ?_
      refine TL'.passU (.off _ _ _ _ rfl rfl rfl rfl) (dl rfl rfl) ?_
      refine TL'.passU (.off _ _ _ _ rfl rfl rfl rfl) (dl rfl rfl) ?_
      refine TL'.passU (.off _ _ _ _ rfl rfl rfl rfl) (dl rfl rfl) ?_
      refine TL'.passU (.off _ _ _ _ rfl rfl rfl rfl) (dl rfl rfl) ?_
      refine TL'.passU (.off _ _ _ _ rfl rfl rfl rfl) (dl rfl rfl) ?_
      refine sp rfl (OpT.pickT rfl (dl rfl rfl) rfl rfl rfl ?_)
      refine mv rfl rfl rfl rfl rfl ?_
      refine TL'.passU (.off _ _ _ _ rfl rfl rfl rfl) (dl rfl rfl) ?_
      refine TL'.passU (.off _ _ _ _ rfl rfl rfl rfl) (dl rfl rfl) ?_
      refine TL'.passU (.off _ _ _ _ rfl rfl rfl rfl) (dl rfl rfl) ?_
      refine TL'.passU (.off _ _ _ _ rfl rfl rfl rfl) (dl rfl rfl) ?_
      refine TL'.passU (.off _ _ _ _ rfl rfl rfl rfl) (dl rfl rfl) ?_
      refine TL'.passU (.off _ _ _ _ rfl rfl rfl rfl) (dl rfl rfl) ?_
      refine TL'.passU (.off _ _ _ _ rfl rfl rfl rfl) (dl rfl rfl) ?_
      refine sp rfl (OpT.pickT rfl (dl rfl rfl) rfl rfl rfl ?_)
      refine TL'.nil (thenS_normal ?_)
      refine T.condT rfl rfl ?_
      refine T.by_turn ?_ (raddleref11_Right_j0_T K h)
      exact Turn.rp (.nil _) (.n _)
    · refine TL'.step (.on rfl rfl rfl c_275) (OpT.fieldPtr rfl (dl rfl rfl) Try.underlying28 rfl i26 (by decide) rfl ?_)
      refine TL'.step (.on rfl rfl rfl c_275) (OpT.loadBox (i := 0) rfl (dl rfl rfl) Try.underlying26 rfl rfl rfl rfl ?_)
      refine TL'.step (.on rfl rfl rfl c_275) (OpT.lenSlM (xs := x0.States) (f := c_api_State) rfl (dl rfl rfl) Try.underlying26 rfl ?_)
      refine TL'.step (.on rfl rfl rfl c_275) (OpT.int2 rfl rfl (dl rfl rfl) rfl rfl ?_)
      refine sp rfl (OpT.pickF rfl (dl rfl rfl) rfl c_275 rfl ?_)
      refine mv rfl rfl rfl rfl rfl ?_
      rcases bif_some h with ⟨c_276, h⟩ | ⟨c_276, h⟩
      · refine TL'.passU (.off _ _ _ _ rfl rfl rfl c_276) (dl rfl rfl) ?_
        refine TL'.passU (.off _ _ _ _ rfl rfl rfl c_276) (dl rfl rfl) ?_
        refine TL'.passU (.off _ _ _ _ rfl rfl rfl c_276) (dl rfl rfl) ?_
        refine TL'.passU (.off _ _ _ _ rfl rfl rfl c_276) (dl rfl rfl) ?_
        refine sp rfl (OpT.pickT rfl (dl rfl rfl) rfl c_276 rfl ?_)
        refine mv rfl rfl rfl rfl rfl ?_
        refine TL'.passU (.off _ _ _ _ rfl rfl rfl rfl) (dl rfl rfl) ?_
        refine TL'.passU (.off _ _ _ _ rfl rfl rfl rfl) (dl rfl rfl) ?_
        refine TL'.passU (.off _ _ _ _ rfl rfl rfl rfl) (dl rfl rfl) ?_
        refine TL'.passU (.off _ _ _ _ rfl rfl rfl rfl) (dl rfl rfl) ?_
        refine TL'.passU (.off _ _ _ _ rfl rfl rfl rfl) (dl rfl rfl) ?_
        refine TL'.passU (.off _ _ _ _ rfl rfl rfl rfl) (dl rfl rfl) ?_
        refine TL'.passU (.off _ _ _ _ rfl rfl rfl rfl) (dl rfl rfl) ?_
        refine sp rfl (OpT.pickT rfl (dl rfl rfl) rfl rfl rfl ?_)
        refine mv rfl rfl rfl rfl rfl ?_
        refine TL'.passU (.off _ _ _ _ rfl rfl rfl rfl) (dl rfl rfl) ?_
        refine TL'.passU (.off _ _ _ _ rfl rfl rfl rfl) (dl rfl rfl) ?_
        refine TL'.passU (.off _ _ _ _ rfl rfl rfl rfl) (dl rfl rfl) ?_
        refine TL'.passU (.off _ _ _ _ rfl rfl rfl rfl) (dl rfl rfl) ?_
        refine TL'.passU (.off _ _ _ _ rfl rfl rfl rfl) (dl rfl rfl) ?_
        refine TL'.passU (.off _ _ _ _ rfl rfl rfl rfl) (dl rfl rfl) ?_
        refine TL'.passU (.off _ _ _ _ rfl rfl rfl rfl) (dl rfl rfl) ?_
        refine sp rfl (OpT.pickT rfl (dl rfl rfl) rfl rfl rfl ?_)
        refine TL'.nil (thenS_normal ?_)
        refine T.condT rfl rfl ?_
        refine T.by_turn ?_ (raddleref11_Right_j0_T K h)
        exact Turn.rp (.nil _) (.n _)
      · refine TL'.step (.on rfl rfl rfl c_276) (OpT.fieldPtr rfl (dl rfl rfl) Try.underlying28 rfl i26 (by decide) rfl ?_)
        refine TL'.step (.on rfl rfl rfl c_276) (OpT.loadBox (i := 0) rfl (dl rfl rfl) Try.underlying26 rfl rfl rfl rfl ?_)
        refine TL'.step (.on rfl rfl rfl c_276) (OpT.lenSlM (xs := x0.States) (f := c_api_State) rfl (dl rfl rfl) Try.underlying26 rfl ?_)
        refine TL'.step (.on rfl rfl rfl c_276) (OpT.int2 rfl rfl (dl rfl rfl) rfl rfl ?_)
        refine sp rfl (OpT.pickF rfl (dl rfl rfl) rfl c_276 rfl ?_)
        refine mv rfl rfl rfl rfl rfl ?_
        rcases bif_some h with ⟨c_277, h⟩ | ⟨c_277, h⟩
        · refine TL'.passU (.off _ _ _ _ rfl rfl rfl c_277) (dl rfl rfl) ?_
          refine TL'.passU (.off _ _ _ _ rfl rfl rfl c_277) (dl rfl rfl) ?_
          refine TL'.passU (.off _ _ _ _ rfl rfl rfl c_277) (dl rfl rfl) ?_
          refine TL'.passU (.off _ _ _ _ rfl rfl rfl c_277) (dl rfl rfl) ?_
          refine TL'.passU (.off _ _ _ _ rfl rfl rfl c_277) (dl rfl rfl) ?_
          refine TL'.passU (.off _ _ _ _ rfl rfl rfl c_277) (dl rfl rfl) ?_
          refine TL'.passU (.off _ _ _ _ rfl rfl rfl c_277) (dl rfl rfl) ?_
          refine sp rfl (OpT.pickT rfl (dl rfl rfl) rfl c_277 rfl ?_)
          refine mv rfl rfl rfl rfl rfl ?_
          refine TL'.passU (.off _ _ _ _ rfl rfl rfl rfl) (dl rfl rfl) ?_
          refine TL'.passU (.off _ _ _ _ rfl rfl rfl rfl) (dl rfl rfl) ?_
          refine TL'.passU (.off _ _ _ _ rfl rfl rfl rfl) (dl rfl rfl) ?_
          refine TL'.passU (.off _ _ _ _ rfl rfl rfl rfl) (dl rfl rfl) ?_
          refine TL'.passU (.off _ _ _ _ rfl rfl rfl rfl) (dl rfl rfl) ?_
          refine TL'.passU (.off _ _ _ _ rfl rfl rfl rfl) (dl rfl rfl) ?_
          refine TL'.passU (.off _ _ _ _ rfl rfl rfl rfl) (dl rfl rfl) ?_
          refine sp rfl (OpT.pickT rfl (dl rfl rfl) rfl rfl rfl ?_)
          refine TL'.nil (thenS_normal ?_)
          refine T.condT rfl rfl ?_
          refine T.by_turn ?_ (raddleref11_Right_j0_T K h)
          exact Turn.rp (.nil _) (.n _)
        · refine TL'.step (.on rfl rfl rfl c_277) (OpT.fieldPtr rfl (dl rfl rfl) Try.underlying28 rfl i26 (by decide) rfl ?_)
          refine TL'.step (.on rfl rfl rfl c_277) (OpT.loadBox (i := 0) rfl (dl rfl rfl) Try.underlying26 rfl rfl rfl rfl ?_)
          obtain ⟨v_278, e_279, h⟩ := bind_some h
          refine TL'.step (.on rfl rfl rfl c_277) (OpT.indexSlM (xs := x0.States) (f := c_api_State) (v := v_278) rfl (dl rfl rfl) Try.underlying26 i59 rfl rfl e_279 ?_)
          refine TL'.step (.on rfl rfl rfl c_277) (OpT.fieldRef rfl (dl rfl rfl) Try.underlying59 rfl i56 (by decide) rfl ?_)
          refine TL'.step (.on rfl rfl rfl c_277) (OpT.loadRef rfl (dl rfl rfl) Try.underlying56 rfl rfl rfl ?_)
          refine TL'.step (.on rfl rfl rfl c_277) (OpT.lenSlM (xs := v_278.L) (f := (cI .i64)) rfl (dl rfl rfl) Try.underlying56 rfl ?_)
          refine TL'.step (.on rfl rfl rfl c_277) (OpT.int2 rfl rfl (dl rfl rfl) rfl rfl ?_)
          refine sp rfl (OpT.pickF rfl (dl rfl rfl) rfl c_277 rfl ?_)
          refine mv rfl rfl rfl rfl rfl ?_
          rcases bif_some h with ⟨c_280, h⟩ | ⟨c_280, h⟩
          · refine TL'.passU (.off _ _ _ _ rfl rfl rfl c_280) (dl rfl rfl) ?_
            refine TL'.passU (.off _ _ _ _ rfl rfl rfl c_280) (dl rfl rfl) ?_
            refine TL'.passU (.off _ _ _ _ rfl rfl rfl c_280) (dl rfl rfl) ?_
            refine TL'.passU (.off _ _ _ _ rfl rfl rfl c_280) (dl rfl rfl) ?_
            refine TL'.passU (.off _ _ _ _ rfl rfl rfl c_280) (dl rfl rfl) ?_
            refine TL'.passU (.off _ _ _ _ rfl rfl rfl c_280) (dl rfl rfl) ?_
            refine TL'.passU (.off _ _ _ _ rfl rfl rfl c_280) (dl rfl rfl) ?_
            refine sp rfl (OpT.pickT rfl (dl rfl rfl) rfl c_280 rfl ?_)
            refine TL'.nil (thenS_normal ?_)
            refine T.condT rfl rfl ?_
            refine T.by_turn ?_ (raddleref11_Right_j0_T K h)
            exact Turn.rp (.nil _) (.n _)
          · refine TL'.step (.on rfl rfl rfl c_280) (OpT.fieldPtr rfl (dl rfl rfl) Try.underlying28 rfl i26 (by decide) rfl ?_)
            refine TL'.step (.on rfl rfl rfl c_280) (OpT.loadBox (i := 0) rfl (dl rfl rfl) Try.underlying26 rfl rfl rfl rfl ?_)
            refine TL'.step (.on rfl rfl rfl c_280) (OpT.indexSlM (xs := x0.States) (f := c_api_State) (v := v_278) rfl (dl rfl rfl) Try.underlying26 i59 rfl rfl e_279 ?_)
            refine TL'.step (.on rfl rfl rfl c_280) (OpT.fieldRef rfl (dl rfl rfl) Try.underlying59 rfl i56 (by decide) rfl ?_)
            refine TL'.step (.on rfl rfl rfl c_280) (OpT.loadRef rfl (dl rfl rfl) Try.underlying56 rfl rfl rfl ?_)
            refine TL'.step (.on rfl rfl rfl c_280) (OpT.lenSlM (xs := v_278.R) (f := (cI .i64)) rfl (dl rfl rfl) Try.underlying56 rfl ?_)
            refine TL'.step (.on rfl rfl rfl c_280) (OpT.int2 rfl rfl (dl rfl rfl) rfl rfl ?_)
            refine sp rfl (OpT.pickF rfl (dl rfl rfl) rfl c_280 rfl ?_)
            refine TL'.nil (thenS_normal ?_)
            rcases bif_some h with ⟨c_281, h⟩ | ⟨c_281, h⟩
            · refine T.condT rfl c_281 ?_
              refine T.by_turn ?_ (raddleref11_Right_j0_T K h)
              exact Turn.rp (.nil _) (.n _)
            · refine T.condF rfl c_281 ?_
              refine T.skip (thenS_normal ?_)
              refine T.seq ?_
              refine T.seq ?_
              refine T.regionL ?_
              refine asg rfl rfl rfl rfl rfl ?_
              refine TL'.nil (thenS_normal ?_)
              refine T.block ?_
              refine T.loop ?_
              refine TL.by_turn ?_ (raddleref11_Right_l1_T K K (0 : Int) x0 b_271 h)
              exact Turn.rp (.cons rfl (.cons rfl (.nil _))) (.c .z (.n _))

end Go.Rv

/- Each function computes what its plain text says: printed by a program of ours. -/
import Derived.Test.YtaipjabggdifoaaRgW1
namespace Go.Rv
open Go.Proofs
set_option maxRecDepth 100000
set_option maxHeartbeats 4000000
set_option linter.unusedVariables false

abbrev table_Encode_q (r : (List Int) × Int) : Exit → St → Prop := retS Try.prog Try.f10 (fun y t => y = (.tup [.sl false 1 (r.1.map (cI .u8)), .int .i64 r.2]) ∧ t = [])

abbrev table_Encode_qs11111111 (r : (List Int) × Int) : Exit → St → Prop := thenS (fun s' => T Try.prog 119 (Code.at [1, 1, 1, 1, 1, 1, 1, 1] (codeOf Try.f10)) s' ((table_Encode_q r))) ((table_Encode_q r))

abbrev table_Encode_qb4x11111111 (r : (List Int) × Int) : Exit → St → Prop := inBlockS 4 ((table_Encode_qs11111111 r))

abbrev table_Encode_ql1111111010 (r : (List Int) × Int) : Exit → St → Prop := thenS (fun s' => TL Try.prog 119 (Code.at [1, 1, 1, 1, 1, 1, 1, 0, 1, 0, 0] (codeOf Try.f10)) s' ((table_Encode_qb4x11111111 r))) ((table_Encode_qb4x11111111 r))

abbrev table_Encode_qs11111110100111 (r : (List Int) × Int) : Exit → St → Prop := thenS (fun s' => T Try.prog 119 (Code.at [1, 1, 1, 1, 1, 1, 1, 0, 1, 0, 0, 1, 1, 1] (codeOf Try.f10)) s' ((table_Encode_ql1111111010 r))) ((table_Encode_ql1111111010 r))

abbrev table_Encode_qb5_4x11111110100111 (r : (List Int) × Int) : Exit → St → Prop := inBlockS 5 ((table_Encode_qs11111110100111 r))

abbrev table_Encode_qb6_5_4x11111110100111 (r : (List Int) × Int) : Exit → St → Prop := inBlockS 6 ((table_Encode_qb5_4x11111110100111 r))

abbrev table_Encode_ql111111101001100110 (r : (List Int) × Int) : Exit → St → Prop := thenS (fun s' => TL Try.prog 119 (Code.at [1, 1, 1, 1, 1, 1, 1, 0, 1, 0, 0, 1, 1, 0, 0, 1, 1, 0, 0] (codeOf Try.f10)) s' ((table_Encode_qb6_5_4x11111110100111 r))) ((table_Encode_qb6_5_4x11111110100111 r))

abbrev table_Encode_qs1111111010011001100111 (r : (List Int) × Int) : Exit → St → Prop := thenS (fun s' => T Try.prog 119 (Code.at [1, 1, 1, 1, 1, 1, 1, 0, 1, 0, 0, 1, 1, 0, 0, 1, 1, 0, 0, 1, 1, 1] (codeOf Try.f10)) s' ((table_Encode_ql111111101001100110 r))) ((table_Encode_ql111111101001100110 r))

abbrev table_Encode_qb7_6_5_4x1111111010011001100111 (r : (List Int) × Int) : Exit → St → Prop := inBlockS 7 ((table_Encode_qs1111111010011001100111 r))

abbrev table_Encode_qb8_7_6_5_4x1111111010011001100111 (r : (List Int) × Int) : Exit → St → Prop := inBlockS 8 ((table_Encode_qb7_6_5_4x1111111010011001100111 r))

abbrev table_Encode_qs1111111 (r : (List Int) × Int) : Exit → St → Prop := thenS (fun s' => T Try.prog 119 (Code.at [1, 1, 1, 1, 1, 1, 1] (codeOf Try.f10)) s' ((table_Encode_q r))) ((table_Encode_q r))

abbrev table_Encode_qb2x1111111 (r : (List Int) × Int) : Exit → St → Prop := inBlockS 2 ((table_Encode_qs1111111 r))

abbrev table_Encode_qs11111 (r : (List Int) × Int) : Exit → St → Prop := thenS (fun s' => T Try.prog 119 (Code.at [1, 1, 1, 1, 1] (codeOf Try.f10)) s' ((table_Encode_q r))) ((table_Encode_q r))

abbrev table_Encode_qb0x11111 (r : (List Int) × Int) : Exit → St → Prop := inBlockS 0 ((table_Encode_qs11111 r))

abbrev table_Encode_l3_H (r : (List Int) × Int) (go : api_Auto → Int → Int → (List (List api_Move)) → Int → Int → (List Int) → (List Int) → (List Int) → (List Int) → (List (List api_Move)) → Option ((List Int) × Int)) : Prop := ∀ (x0 : api_Auto) (x68_2_2 : Int) (x69_3_7 : Int) (x74_3_8 : List (List api_Move)) (x75_3_9 : Int) (x76_3_10 : Int) (y4_3_0 : List Int) (y10_3_1 : List Int) (y10_3_2 : List Int) (y10_3_3 : List Int) (y10_3_4 : List (List api_Move)) (b4_3 : Nat) (w4_3 : Value) (b10_3 : Nat), go x0 x68_2_2 x69_3_7 x74_3_8 x75_3_9 x76_3_10 y4_3_0 y10_3_1 y10_3_2 y10_3_3 y10_3_4 = some r → TL Try.prog 119 (Code.at [1, 1, 1, 1, 1, 1, 1, 0, 1, 0, 0, 1, 1, 0, 0, 1, 1, 0, 0] (codeOf Try.f10)) ⟨[(4, .ptr b4_3 0), (10, .ptr b10_3 0), (67, .sl false 4 (x0.States.map c_api_State)), (68, .int .i64 x68_2_2), (69, .int .i64 x69_3_7), (74, .sl false 1 (x74_3_8.map (cL 2 c_api_Move))), (75, .int .i64 x75_3_9), (76, .int .i64 x76_3_10)], [.box b4_3 54 [.d (.ex w4_3)], .arrA w4_3 5 1 (y4_3_0.map (cI .u8)), .box b10_3 59 [.d (.sl false 1 (y10_3_1.map (cI .i64))), .d (.sl false 1 (y10_3_2.map (cI .i64))), .d (.sl false 1 (y10_3_3.map (cI .i64))), .d (.sl false 1 (y10_3_4.map (cL 2 c_api_Move)))]]⟩ (table_Encode_qb6_5_4x11111110100111 r)

theorem table_Encode_l4_T {r : (List Int) × Int} (K : Nat) (go3 : api_Auto → Int → Int → (List (List api_Move)) → Int → Int → (List Int) → (List Int) → (List Int) → (List Int) → (List (List api_Move)) → Option ((List Int) × Int)) (hgo3 : table_Encode_l3_H r go3) : ∀ (k : Nat), ∀ (x0 : api_Auto) (x68_2_2 : Int) (x69_4_7 : Int) (x74_3_8 : List (List api_Move)) (x75_3_9 : Int) (x76_4_10 : Int) (x90_4_11 : List api_Move) (x91_4_12 : Int) (x92_4_13 : Int) (y4_4_0 : List Int) (y10_3_1 : List Int) (y10_3_2 : List Int) (y10_3_3 : List Int) (y10_3_4 : List (List api_Move)) (b4_4 : Nat) (w4_4 : Value) (b10_4 : Nat), table_Encode_l4 K go3 k x0 x68_2_2 x69_4_7 x74_3_8 x75_3_9 x76_4_10 x90_4_11 x91_4_12 x92_4_13 y4_4_0 y10_3_1 y10_3_2 y10_3_3 y10_3_4 = some r → TL Try.prog 119 (Code.at [1, 1, 1, 1, 1, 1, 1, 0, 1, 0, 0, 1, 1, 0, 0, 1, 1, 0, 0, 1, 1, 0, 0, 1, 1, 1, 0, 0] (codeOf Try.f10)) ⟨[(4, .ptr b4_4 0), (10, .ptr b10_4 0), (67, .sl false 4 (x0.States.map c_api_State)), (68, .int .i64 x68_2_2), (69, .int .i64 x69_4_7), (74, .sl false 1 (x74_3_8.map (cL 2 c_api_Move))), (75, .int .i64 x75_3_9), (76, .int .i64 x76_4_10), (90, .sl false 2 (x90_4_11.map c_api_Move)), (91, .int .i64 x91_4_12), (92, .int .i64 x92_4_13)], [.box b4_4 54 [.d (.ex w4_4)], .arrA w4_4 5 1 (y4_4_0.map (cI .u8)), .box b10_4 59 [.d (.sl false 1 (y10_3_1.map (cI .i64))), .d (.sl false 1 (y10_3_2.map (cI .i64))), .d (.sl false 1 (y10_3_3.map (cI .i64))), .d (.sl false 1 (y10_3_4.map (cL 2 c_api_Move)))]]⟩ (table_Encode_qb8_7_6_5_4x1111111010011001100111 r) := by
  intro k
  induction k with
  | zero =>
    intro x0 x68_2_2 x69_4_7 x74_3_8 x75_3_9 x76_4_10 x90_4_11 x91_4_12 x92_4_13 y4_4_0 y10_3_1 y10_3_2 y10_3_3 y10_3_4 b4_4 w4_4 b10_4 h
    cases (show (none : Option ((List Int) × Int)) = some r from h)
  | succ k ih =>
    intro x0 x68_2_2 x69_4_7 x74_3_8 x75_3_9 x76_4_10 x90_4_11 x91_4_12 x92_4_13 y4_4_0 y10_3_1 y10_3_2 y10_3_3 y10_3_4 b4_4 w4_4 b10_4 h
    rw [table_Encode_l4] at h
    refine TL.round ?_
    refine T.seq ?_
    refine T.regionL ?_
    refine sp rfl (OpT.int2 rfl rfl (dl rfl rfl) rfl rfl ?_)
    refine TL'.nil (thenS_normal ?_)
    refine T.seq ?_
    rcases bif_some h with ⟨c_959, h⟩ | ⟨c_959, h⟩
    · refine T.condT rfl c_959 ?_
      refine T.skip (thenS_normal ?_)
      refine T.seq ?_
      refine T.block ?_
      refine T.seq ?_
      refine T.regionL ?_
      obtain ⟨v_960, e_961, h⟩ := bind_some h
      refine sp rfl (OpT.indexSlM (xs := x90_4_11) (f := c_api_Move) (v := v_960) rfl (dl rfl rfl) Try.underlying61 i63 rfl rfl e_961 ?_)
      refine sp rfl (OpT.loadRefAgg rfl (dl rfl rfl) Try.underlying63 rfl i63 rfl (Nat.le_of_ble_eq_true rfl) ?_)
      refine sp rfl (OpT.alloc' rfl (dl rfl rfl) i63 rfl (fun b_962 => ?_))
      refine sp rfl (OpT.storeAggTo (i := 0) (cells' := [.d (.int .i64 v_960.To), .d (.sl false 1 (v_960.Ops.map (cI .u8)))]) rfl rfl i63 rfl rfl rfl rfl (Nat.le_of_ble_eq_true rfl) rfl ?_)
      refine TL'.nil (thenS_normal ?_)
      refine T.seq ?_
      refine T.regionL ?_
      refine mv rfl rfl rfl rfl rfl ?_
      refine sp rfl (OpT.fieldPtr rfl (dl rfl rfl) Try.underlying63 rfl i3 (by decide) rfl ?_)
      refine sp rfl (OpT.loadBox (i := 0) rfl (dl rfl rfl) Try.underlying3 rfl rfl rfl rfl ?_)
      refine sp rfl (OpT.int2 rfl rfl (dl rfl rfl) rfl rfl ?_)
      refine sp rfl (OpT.buildSlice (elems := ([(IntKind.i64.wrap (v_960.To + (1 : Int)))] : List Int).map (cI .i64)) rfl (dl rfl rfl) Try.underlying56 i3 (by decide) rfl (all1 rfl) rfl rfl rfl (lenAll rfl) (by decide) ?_)
      obtain ⟨v_963, e_964, h⟩ := bind_some h
      refine sp rfl (OpT.callG (is := [1, 2]) (ph := []) rfl (dl rfl rfl) Try.func22 rfl rfl (Args.cons rfl (Args.cons rfl Args.nil)) (table_writer_num_T K (bx0 := b4_4) (wx0c0 := w4_4) (flx1 := true) e_964) (.cons rfl rfl (.cons rfl rfl (.nil))) (fun _ => rfl) (fun γ_965 => ?_))
      refine nm (.c (.c (.c (.c (.n))))) ?_
      refine TL'.nil (thenS_normal ?_)
      refine T.by_turn Turn.keepPlace ?_
      refine DGG.start ?_
      refine DGG.step (c := fun γ_966 => ⟨some 102, .ptr b4_4 0, [(4, .ptr b4_4 0)], [], []⟩) [] (fun _ _ _ => rfl) (fun γ_966 t hm => One.step rfl (.free rfl) (OpT.move rfl (dl rfl rfl) hm.s0 ⟨(fun _ => undef, 0), rfl⟩)) (fun γ_966 => Ct.met_of rfl rfl) ?_
      refine DGG.step (c := fun γ_966 => ⟨some 103, .ptr b4_4 0, [(4, .ptr b4_4 0)], [], []⟩) [] (fun _ _ _ => rfl) (fun γ_966 t hm => One.step rfl (.free rfl) (OpT.move rfl (dl rfl rfl) hm.s0 ⟨(fun _ => undef, 0), rfl⟩)) (fun γ_966 => Ct.met_of rfl rfl) ?_
      refine DGG.step (c := fun γ_966 => ⟨some 104, .ptr b4_4 0, [(103, .ptr b4_4 0)], [], []⟩) [] (fun _ _ _ => rfl) (fun γ_966 t hm => One.step rfl (.free rfl) (OpT.nilCheck rfl (dl rfl rfl) hm.s0 rfl ⟨(fun _ => undef, 0), rfl⟩)) (fun γ_966 => Ct.met_of rfl rfl) ?_
      refine DGG.step (c := fun γ_966 => ⟨some 105, .ptr b4_4 (0 + 0), [(104, .ptr b4_4 0)], [], []⟩) [] (fun _ _ _ => rfl) (fun γ_966 t hm => One.step rfl (.free rfl) (OpT.fieldPtr rfl (dl rfl rfl) Try.underlying54 rfl i29 (by decide) hm.s0 ⟨(fun _ => undef, 0), rfl⟩)) (fun γ_966 => Ct.met_of rfl rfl) ?_
      refine DGG.step (c := fun γ_966 => ⟨some 106, .c (.ex (γ_965 0)), [(105, .ptr b4_4 (0 + 0))], [(2, .box b4_4 54 [.d (.ex (γ_965 0))])], []⟩) [] (fun _ _ _ => rfl) (fun γ_966 t hm => One.step rfl (.free rfl) (OpT.loadBox (i := 2) rfl (dl rfl rfl) Try.underlying29 rfl hm.s0 hm.o0 rfl ⟨(fun _ => undef, 0), rfl⟩)) (fun γ_966 => Ct.met_of rfl rfl) ?_
      refine DGG.step (c := fun γ_966 => ⟨some 107, .ptr b_962 (0 + 1), [(14, .ptr b_962 0)], [], []⟩) [] (fun _ _ _ => rfl) (fun γ_966 t hm => One.step rfl (.free rfl) (OpT.fieldPtr rfl (dl rfl rfl) Try.underlying63 rfl i29 (by decide) hm.s0 ⟨(fun _ => undef, 0), rfl⟩)) (fun γ_966 => Ct.met_of rfl rfl) ?_
      refine DGG.step (c := fun γ_966 => ⟨some 108, .sl false 1 (v_960.Ops.map (cI .u8)), [(107, .ptr b_962 (0 + 1))], [(1, .box b_962 63 [.d (.int .i64 v_960.To), .d (.sl false 1 (v_960.Ops.map (cI .u8)))])], []⟩) [] (fun _ _ _ => rfl) (fun γ_966 t hm => One.step rfl (.free rfl) (OpT.loadBox (i := 1) rfl (dl rfl rfl) Try.underlying29 rfl hm.s0 hm.o0 rfl ⟨(fun _ => undef, 0), rfl⟩)) (fun γ_966 => Ct.met_of rfl rfl) ?_
      obtain ⟨g_969, h⟩ := ck_some h
      refine DGG.step (c := fun γ_966 => ⟨some 109, .c (.ex ((γ_966 7).1 0)), [(108, .sl false 1 (v_960.Ops.map (cI .u8))), (106, .c (.ex (γ_965 0)))], [(3, .arrA (γ_965 0) 5 1 (v_963.b.map (cI .u8)))], [(3, .arrA ((γ_966 7).1 0) 5 1 ((v_963.b ++ v_960.Ops).map (cI .u8)))]⟩) [7] (fun γ_966 γ' h => by simp only [h 7 (by decide)]) (fun γ_966 t hm => One.step rfl (.free rfl) (OpT.appendAM (i := 3) (xs := v_963.b) (ys := v_960.Ops) (f := (cI .u8)) rfl (dl rfl rfl) Try.underlying29 i5 rfl hm.s1 hm.o0 hm.s0 g_969 (fun w => ⟨(fun _ => w, 0), rfl⟩))) (fun γ_966 => Ct.met_of rfl rfl) ?_
      refine DGG.step (c := fun γ_966 => ⟨some 110, .ptr b4_4 0, [(102, .ptr b4_4 0)], [], []⟩) [] (fun _ _ _ => rfl) (fun γ_966 t hm => One.step rfl (.free rfl) (OpT.nilCheck rfl (dl rfl rfl) hm.s0 rfl ⟨(fun _ => undef, 0), rfl⟩)) (fun γ_966 => Ct.met_of rfl rfl) ?_
      refine DGG.step (c := fun γ_966 => ⟨some 111, .ptr b4_4 (0 + 0), [(110, .ptr b4_4 0)], [], []⟩) [] (fun _ _ _ => rfl) (fun γ_966 t hm => One.step rfl (.free rfl) (OpT.fieldPtr rfl (dl rfl rfl) Try.underlying54 rfl i29 (by decide) hm.s0 ⟨(fun _ => undef, 0), rfl⟩)) (fun γ_966 => Ct.met_of rfl rfl) ?_
      refine DGG.step (c := fun γ_966 => ⟨none, .any, [(111, .ptr b4_4 (0 + 0)), (109, .c (.ex ((γ_966 7).1 0)))], [(2, .box b4_4 54 [.d (.ex (γ_965 0))])], [(2, .box b4_4 54 [.d (.ex ((γ_966 7).1 0))])]⟩) [7] (fun γ_966 γ' h => by simp only [h 7 (by decide)]) (fun γ_966 t hm => One.step rfl (.free rfl) (OpT.storeTo (i := 2) (cells' := [.d (.ex ((γ_966 7).1 0))]) rfl rfl i29 hm.s0 hm.s1 hm.o0 (Nat.le_of_ble_eq_true rfl) rfl ⟨(fun _ => undef, 0), rfl⟩)) (fun γ_966 => Ct.met_of rfl rfl) ?_
      refine DGG.fin (s1 := fun γ_966 => ⟨[(4, .ptr b4_4 0), (10, .ptr b10_4 0), (67, .sl false 4 (x0.States.map c_api_State)), (68, .int .i64 x68_2_2), (69, .int .i64 x69_4_7), (74, .sl false 1 (x74_3_8.map (cL 2 c_api_Move))), (75, .int .i64 x75_3_9), (76, .int .i64 x76_4_10), (90, .sl false 2 (x90_4_11.map c_api_Move)), (91, .int .i64 x91_4_12), (92, .int .i64 x92_4_13)], [.ro 0 [], .box b_962 63 [.d (.int .i64 v_960.To), .d (.sl false 1 (v_960.Ops.map (cI .u8)))], .box b4_4 54 [.d (.ex ((γ_966 7).1 0))], .arrA ((γ_966 7).1 0) 5 1 ((v_963.b ++ v_960.Ops).map (cI .u8)), .box b10_4 59 [.d (.sl false 1 (y10_3_1.map (cI .i64))), .d (.sl false 1 (y10_3_2.map (cI .i64))), .d (.sl false 1 (y10_3_3.map (cI .i64))), .d (.sl false 1 (y10_3_4.map (cL 2 c_api_Move)))]]⟩) (ms := [0, 0, 2, 6, 14, 0, 32, 126, 255, 511, 1023]) TryMixed rfl (by kernel_rfl) (by kernel_rfl) (by kernel_rfl) (fun γ_966 => by kernel_rfl) (fun γ_966 => .cons rfl (.cons rfl (.cons rfl (.cons rfl (.cons rfl (.cons rfl (.cons rfl (.cons rfl (.cons rfl (.cons rfl (.cons rfl (.nil _)))))))))))) (fun _ => rfl) (fun γ_966 u hu => (inBlock_normal (thenS_normal (T.by_turn hu ?_))))
      refine T.regionL ?_
      refine sp rfl (OpT.int2 rfl rfl (dl rfl rfl) rfl rfl ?_)
      refine mv rfl rfl rfl rfl rfl ?_
      refine TL'.nil (thenS_normal ?_)
      refine TL.by_turn ?_ (ih x0 x68_2_2 x69_4_7 x74_3_8 x75_3_9 x76_4_10 x90_4_11 x91_4_12 (IntKind.i64.wrap (x92_4_13 + (1 : Int))) (v_963.b ++ v_960.Ops) y10_3_1 y10_3_2 y10_3_3 y10_3_4 b4_4 ((γ_966 7).1 0) b10_4 h)
      exact Turn.rp (.cons rfl (.cons rfl (.cons rfl (.cons rfl (.cons rfl (.cons rfl (.cons rfl (.cons rfl (.cons rfl (.cons rfl (.cons rfl (.nil _)))))))))))) (.c (.s (.s .z)) (.c (.s (.s .z)) (.c (.s (.s .z)) (.n _))))
    · refine T.condF rfl c_959 ?_
      refine T.exit (thenS_exit (thenS_exit (inBlock_exit (inBlock_normal (thenS_normal ?_)))))
      refine T.regionL ?_
      refine sp rfl (OpT.int2 rfl rfl (dl rfl rfl) rfl rfl ?_)
      refine mv rfl rfl rfl rfl rfl ?_
      refine TL'.nil (thenS_normal ?_)
      refine TL.by_turn ?_ (hgo3 x0 x68_2_2 x69_4_7 x74_3_8 x75_3_9 (IntKind.i64.wrap (x76_4_10 + (1 : Int))) y4_4_0 y10_3_1 y10_3_2 y10_3_3 y10_3_4 b4_4 w4_4 b10_4 h)
      exact Turn.rp (.cons rfl (.cons rfl (.cons rfl (.cons rfl (.cons rfl (.cons rfl (.cons rfl (.cons rfl (.nil _))))))))) (.c .z (.c .z (.c .z (.n _))))

abbrev table_Encode_l2_H (r : (List Int) × Int) (go : api_Auto → Int → Int → (List Int) → Option ((List Int) × Int)) : Prop := ∀ (x0 : api_Auto) (x68_2_2 : Int) (x69_2_3 : Int) (y4_2_0 : List Int) (b4_2 : Nat) (w4_2 : Value), go x0 x68_2_2 x69_2_3 y4_2_0 = some r → TL Try.prog 119 (Code.at [1, 1, 1, 1, 1, 1, 1, 0, 1, 0, 0] (codeOf Try.f10)) ⟨[(4, .ptr b4_2 0), (67, .sl false 4 (x0.States.map c_api_State)), (68, .int .i64 x68_2_2), (69, .int .i64 x69_2_3)], [.box b4_2 54 [.d (.ex w4_2)], .arrA w4_2 5 1 (y4_2_0.map (cI .u8))]⟩ (table_Encode_qb4x11111111 r)

theorem table_Encode_l3_T {r : (List Int) × Int} (K : Nat) (go2 : api_Auto → Int → Int → (List Int) → Option ((List Int) × Int)) (hgo2 : table_Encode_l2_H r go2) : ∀ (k : Nat), ∀ (x0 : api_Auto) (x68_2_2 : Int) (x69_3_7 : Int) (x74_3_8 : List (List api_Move)) (x75_3_9 : Int) (x76_3_10 : Int) (y4_3_0 : List Int) (y10_3_1 : List Int) (y10_3_2 : List Int) (y10_3_3 : List Int) (y10_3_4 : List (List api_Move)) (b4_3 : Nat) (w4_3 : Value) (b10_3 : Nat), table_Encode_l3 K go2 k x0 x68_2_2 x69_3_7 x74_3_8 x75_3_9 x76_3_10 y4_3_0 y10_3_1 y10_3_2 y10_3_3 y10_3_4 = some r → TL Try.prog 119 (Code.at [1, 1, 1, 1, 1, 1, 1, 0, 1, 0, 0, 1, 1, 0, 0, 1, 1, 0, 0] (codeOf Try.f10)) ⟨[(4, .ptr b4_3 0), (10, .ptr b10_3 0), (67, .sl false 4 (x0.States.map c_api_State)), (68, .int .i64 x68_2_2), (69, .int .i64 x69_3_7), (74, .sl false 1 (x74_3_8.map (cL 2 c_api_Move))), (75, .int .i64 x75_3_9), (76, .int .i64 x76_3_10)], [.box b4_3 54 [.d (.ex w4_3)], .arrA w4_3 5 1 (y4_3_0.map (cI .u8)), .box b10_3 59 [.d (.sl false 1 (y10_3_1.map (cI .i64))), .d (.sl false 1 (y10_3_2.map (cI .i64))), .d (.sl false 1 (y10_3_3.map (cI .i64))), .d (.sl false 1 (y10_3_4.map (cL 2 c_api_Move)))]]⟩ (table_Encode_qb6_5_4x11111110100111 r) := by
  intro k
  induction k with
  | zero =>
    intro x0 x68_2_2 x69_3_7 x74_3_8 x75_3_9 x76_3_10 y4_3_0 y10_3_1 y10_3_2 y10_3_3 y10_3_4 b4_3 w4_3 b10_3 h
    cases (show (none : Option ((List Int) × Int)) = some r from h)
  | succ k ih =>
    intro x0 x68_2_2 x69_3_7 x74_3_8 x75_3_9 x76_3_10 y4_3_0 y10_3_1 y10_3_2 y10_3_3 y10_3_4 b4_3 w4_3 b10_3 h
    rw [table_Encode_l3] at h
    refine TL.round ?_
    refine T.seq ?_
    refine T.regionL ?_
    refine sp rfl (OpT.int2 rfl rfl (dl rfl rfl) rfl rfl ?_)
    refine TL'.nil (thenS_normal ?_)
    refine T.seq ?_
    rcases bif_some h with ⟨c_951, h⟩ | ⟨c_951, h⟩
    · refine T.condT rfl c_951 ?_
      refine T.skip (thenS_normal ?_)
      refine T.seq ?_
      refine T.block ?_
      refine T.seq ?_
      refine T.regionL ?_
      refine mv rfl rfl rfl rfl rfl ?_
      obtain ⟨v_952, e_953, h⟩ := bind_some h
      refine sp rfl (OpT.indexSlM (xs := x74_3_8) (f := (cL 2 c_api_Move)) (v := v_952) rfl (dl rfl rfl) Try.underlying57 i61 rfl rfl e_953 ?_)
      refine sp rfl (OpT.loadRef rfl (dl rfl rfl) Try.underlying61 rfl rfl rfl ?_)
      refine asg rfl rfl rfl rfl rfl ?_
      refine asg rfl rfl rfl rfl rfl ?_
      refine TL'.nil (thenS_normal ?_)
      refine T.seq ?_
      refine T.regionL ?_
      refine mv rfl rfl rfl rfl rfl ?_
      refine sp rfl (OpT.fieldPtr rfl (dl rfl rfl) Try.underlying59 rfl i56 (by decide) rfl ?_)
      refine sp rfl (OpT.loadBox (i := 2) rfl (dl rfl rfl) Try.underlying56 rfl rfl rfl rfl ?_)
      refine mv rfl rfl rfl rfl rfl ?_
      obtain ⟨v_954, e_955, h⟩ := bind_some h
      refine sp rfl (OpT.indexSlM (xs := y10_3_3) (f := (cI .i64)) (v := v_954) rfl (dl rfl rfl) Try.underlying56 i3 rfl rfl e_955 ?_)
      refine sp rfl (OpT.loadRef rfl (dl rfl rfl) Try.underlying3 rfl rfl rfl ?_)
      refine sp rfl (OpT.int2 rfl rfl (dl rfl rfl) rfl rfl ?_)
      refine sp rfl (OpT.buildSlice (elems := ([(IntKind.i64.wrap (v_954 + (1 : Int)))] : List Int).map (cI .i64)) rfl (dl rfl rfl) Try.underlying56 i3 (by decide) rfl (all1 rfl) rfl rfl rfl (lenAll rfl) (by decide) ?_)
      obtain ⟨v_956, e_957, h⟩ := bind_some h
      refine sp rfl (OpT.callG (is := [0, 1]) (ph := []) rfl (dl rfl rfl) Try.func22 rfl rfl (Args.cons rfl (Args.cons rfl Args.nil)) (table_writer_num_T K (bx0 := b4_3) (wx0c0 := w4_3) (flx1 := true) e_957) (.cons rfl rfl (.cons rfl rfl (.nil))) (fun _ => rfl) (fun γ_958 => ?_))
      refine nm (.c (.c (.c (.n)))) ?_
      refine TL'.nil (thenS_normal ?_)
      refine T.seq ?_
      refine T.regionL ?_
      refine mv rfl rfl rfl rfl rfl ?_
      refine sp rfl (OpT.lenSlM (xs := v_952) (f := c_api_Move) rfl (dl rfl rfl) Try.underlying61 rfl ?_)
      refine mv rfl rfl rfl rfl rfl ?_
      refine TL'.nil (thenS_normal ?_)
      refine T.block ?_
      refine T.loop ?_
      refine TL.by_turn ?_ (table_Encode_l4_T K (table_Encode_l3 K go2 k) ih K x0 x68_2_2 x69_3_7 x74_3_8 x75_3_9 x76_3_10 v_952 (v_952.length : Int) (0 : Int) v_956.b y10_3_1 y10_3_2 y10_3_3 y10_3_4 b4_3 (γ_958 0) b10_3 h)
      exact Turn.rp (.cons rfl (.cons rfl (.cons rfl (.cons rfl (.cons rfl (.cons rfl (.cons rfl (.cons rfl (.cons rfl (.cons rfl (.cons rfl (.nil _)))))))))))) (.c .z (.c .z (.c .z (.n _))))
    · refine T.condF rfl c_951 ?_
      refine T.exit (thenS_exit (thenS_exit (inBlock_exit (inBlock_normal (thenS_normal ?_)))))
      refine T.regionL ?_
      refine sp rfl (OpT.int2 rfl rfl (dl rfl rfl) rfl rfl ?_)
      refine mv rfl rfl rfl rfl rfl ?_
      refine TL'.nil (thenS_normal ?_)
      refine TL.by_turn ?_ (hgo2 x0 x68_2_2 (IntKind.i64.wrap (x69_3_7 + (1 : Int))) y4_3_0 b4_3 w4_3 h)
      exact Turn.rp (.cons rfl (.cons rfl (.cons rfl (.cons rfl (.nil _))))) (.c .z (.c .z (.n _)))

theorem table_Encode_l2_T {r : (List Int) × Int} (K : Nat) : ∀ (k : Nat), ∀ (x0 : api_Auto) (x68_2_2 : Int) (x69_2_3 : Int) (y4_2_0 : List Int) (b4_2 : Nat) (w4_2 : Value), table_Encode_l2 K k x0 x68_2_2 x69_2_3 y4_2_0 = some r → TL Try.prog 119 (Code.at [1, 1, 1, 1, 1, 1, 1, 0, 1, 0, 0] (codeOf Try.f10)) ⟨[(4, .ptr b4_2 0), (67, .sl false 4 (x0.States.map c_api_State)), (68, .int .i64 x68_2_2), (69, .int .i64 x69_2_3)], [.box b4_2 54 [.d (.ex w4_2)], .arrA w4_2 5 1 (y4_2_0.map (cI .u8))]⟩ (table_Encode_qb4x11111111 r) := by
  intro k
  induction k with
  | zero =>
    intro x0 x68_2_2 x69_2_3 y4_2_0 b4_2 w4_2 h
    cases (show (none : Option ((List Int) × Int)) = some r from h)
  | succ k ih =>
    intro x0 x68_2_2 x69_2_3 y4_2_0 b4_2 w4_2 h
    rw [table_Encode_l2] at h
    refine TL.round ?_
    refine T.seq ?_
    refine T.regionL ?_
    refine sp rfl (OpT.int2 rfl rfl (dl rfl rfl) rfl rfl ?_)
    refine TL'.nil (thenS_normal ?_)
    refine T.seq ?_
    rcases bif_some h with ⟨c_947, h⟩ | ⟨c_947, h⟩
    · refine T.condT rfl c_947 ?_
      refine T.skip (thenS_normal ?_)
      refine T.seq ?_
      refine T.block ?_
      refine T.seq ?_
      refine T.regionL ?_
      obtain ⟨v_948, e_949, h⟩ := bind_some h
      refine sp rfl (OpT.indexSlM (xs := x0.States) (f := c_api_State) (v := v_948) rfl (dl rfl rfl) Try.underlying26 i59 rfl rfl e_949 ?_)
      refine sp rfl (OpT.loadRefAgg rfl (dl rfl rfl) Try.underlying59 rfl i59 rfl (Nat.le_of_ble_eq_true rfl) ?_)
      refine sp rfl (OpT.alloc' rfl (dl rfl rfl) i59 rfl (fun b_950 => ?_))
      refine sp rfl (OpT.storeAggTo (i := 0) (cells' := [.d (.sl false 1 (v_948.L.map (cI .i64))), .d (.sl false 1 (v_948.R.map (cI .i64))), .d (.sl false 1 (v_948.Rule.map (cI .i64))), .d (.sl false 1 (v_948.Next.map (cL 2 c_api_Move)))]) rfl rfl i59 rfl rfl rfl rfl (Nat.le_of_ble_eq_true rfl) rfl ?_)
      refine TL'.nil (thenS_normal ?_)
      refine T.seq ?_
      refine T.regionL ?_
      refine sp rfl (OpT.fieldPtr rfl (dl rfl rfl) Try.underlying59 rfl i57 (by decide) rfl ?_)
      refine sp rfl (OpT.loadBox (i := 0) rfl (dl rfl rfl) Try.underlying57 rfl rfl rfl rfl ?_)
      refine sp rfl (OpT.lenSlM (xs := v_948.Next) (f := (cL 2 c_api_Move)) rfl (dl rfl rfl) Try.underlying57 rfl ?_)
      refine mv rfl rfl rfl rfl rfl ?_
      refine TL'.nil (thenS_normal ?_)
      refine T.block ?_
      refine T.loop ?_
      refine TL.by_turn ?_ (table_Encode_l3_T K (table_Encode_l2 K k) ih K x0 x68_2_2 x69_2_3 v_948.Next (v_948.Next.length : Int) (0 : Int) y4_2_0 v_948.L v_948.R v_948.Rule v_948.Next b4_2 w4_2 b_950 h)
      exact Turn.rp (.cons rfl (.cons rfl (.cons rfl (.cons rfl (.cons rfl (.cons rfl (.cons rfl (.cons rfl (.nil _))))))))) (.c (.s .z) (.c (.s .z) (.c .z (.n _))))
    · refine T.condF rfl c_947 ?_
      refine T.exit (thenS_exit (thenS_exit (inBlock_exit (thenS_normal ?_))))
      refine T.seq ?_
      refine T.regionL ?_
      refine mv rfl rfl rfl rfl rfl ?_
      refine sp rfl (OpT.nilCheck rfl (dl rfl rfl) rfl rfl ?_)
      refine sp rfl (OpT.fieldPtr rfl (dl rfl rfl) Try.underlying54 rfl i29 (by decide) rfl ?_)
      refine sp rfl (OpT.loadBox (i := 0) rfl (dl rfl rfl) Try.underlying29 rfl rfl rfl rfl ?_)
      refine asg rfl rfl rfl rfl rfl ?_
      refine asg rfl rfl rfl rfl rfl ?_
      refine TL'.nil (thenS_normal ?_)
      refine T.ret ?_
      refine Fin.turn (Turn.view 2 1 rfl rfl) ?_
      exact Fin.done (.cons _ _ _ _ (.tmp 2 _ rfl) (.cons _ _ _ _ (.tmp 3 _ rfl) .nil)) (by cases h; exact ⟨rfl, rfl⟩)

theorem table_Encode_l1_T {r : (List Int) × Int} (K : Nat) : ∀ (k : Nat), ∀ (x0 : api_Auto) (x52_1_6 : Int) (x53_1_7 : Int) (y4_1_4 : List Int) (b1_1 : Nat) (b4_1 : Nat) (w4_1 : Value), table_Encode_l1 K k x0 x52_1_6 x53_1_7 y4_1_4 = some r → TL Try.prog 119 (Code.at [1, 1, 1, 1, 1, 1, 0, 1, 0, 0] (codeOf Try.f10)) ⟨[(1, .ptr b1_1 0), (4, .ptr b4_1 0), (51, .sl false 4 (x0.States.map c_api_State)), (52, .int .i64 x52_1_6), (53, .int .i64 x53_1_7)], [.ro b1_1 ((ArrN.dc 256 .u8 x0.Split.Of) ++ (([.int .i64 x0.Split.Many, .sl false 2 (x0.Counts.map (Arr2.dc .i64)), .sl false 4 (x0.States.map c_api_State)] : List DC))), .box b4_1 54 [.d (.ex w4_1)], .arrA w4_1 5 1 (y4_1_4.map (cI .u8))]⟩ (table_Encode_qb2x1111111 r) := by
  intro k
  induction k with
  | zero =>
    intro x0 x52_1_6 x53_1_7 y4_1_4 b1_1 b4_1 w4_1 h
    cases (show (none : Option ((List Int) × Int)) = some r from h)
  | succ k ih =>
    intro x0 x52_1_6 x53_1_7 y4_1_4 b1_1 b4_1 w4_1 h
    rw [table_Encode_l1] at h
    refine TL.round ?_
    refine T.seq ?_
    refine T.regionL ?_
    refine sp rfl (OpT.int2 rfl rfl (dl rfl rfl) rfl rfl ?_)
    refine TL'.nil (thenS_normal ?_)
    refine T.seq ?_
    rcases bif_some h with ⟨c_937, h⟩ | ⟨c_937, h⟩
    · refine T.condT rfl c_937 ?_
      refine T.skip (thenS_normal ?_)
      refine T.seq ?_
      refine T.block ?_
      refine T.seq ?_
      refine T.regionL ?_
      obtain ⟨v_938, e_939, h⟩ := bind_some h
      refine sp rfl (OpT.indexSlM (xs := x0.States) (f := c_api_State) (v := v_938) rfl (dl rfl rfl) Try.underlying26 i59 rfl rfl e_939 ?_)
      refine sp rfl (OpT.loadRefAgg rfl (dl rfl rfl) Try.underlying59 rfl i59 rfl (Nat.le_of_ble_eq_true rfl) ?_)
      refine sp rfl (OpT.alloc' rfl (dl rfl rfl) i59 rfl (fun b_940 => ?_))
      refine sp rfl (OpT.storeAggTo (i := 0) (cells' := [.d (.sl false 1 (v_938.L.map (cI .i64))), .d (.sl false 1 (v_938.R.map (cI .i64))), .d (.sl false 1 (v_938.Rule.map (cI .i64))), .d (.sl false 1 (v_938.Next.map (cL 2 c_api_Move)))]) rfl rfl i59 rfl rfl rfl rfl (Nat.le_of_ble_eq_true rfl) rfl ?_)
      refine TL'.nil (thenS_normal ?_)
      refine T.seq ?_
      refine T.regionL ?_
      refine mv rfl rfl rfl rfl rfl ?_
      refine sp rfl (OpT.fieldPtr rfl (dl rfl rfl) Try.underlying59 rfl i56 (by decide) rfl ?_)
      refine sp rfl (OpT.loadBox (i := 0) rfl (dl rfl rfl) Try.underlying56 rfl rfl rfl rfl ?_)
      obtain ⟨v_941, e_942, h⟩ := bind_some h
      refine sp rfl (OpT.callG (is := [2, 3]) (ph := []) rfl (dl rfl rfl) Try.func23 rfl rfl (Args.cons rfl (Args.cons rfl Args.nil)) (table_writer_list_T K (bx0 := b4_1) (wx0c0 := w4_1) (flx1 := false) e_942) (.cons rfl rfl (.cons rfl rfl (.nil))) (fun _ => rfl) (fun γ_943 => ?_))
      refine nm (.c (.c (.c (.c (.n))))) ?_
      refine TL'.nil (thenS_normal ?_)
      refine T.regionL ?_
      refine mv rfl rfl rfl rfl rfl ?_
      refine sp rfl (OpT.fieldPtr rfl (dl rfl rfl) Try.underlying59 rfl i56 (by decide) rfl ?_)
      refine sp rfl (OpT.loadBox (i := 0) rfl (dl rfl rfl) Try.underlying56 rfl rfl rfl rfl ?_)
      obtain ⟨v_944, e_945, h⟩ := bind_some h
      refine sp rfl (OpT.callG (is := [2, 3]) (ph := []) rfl (dl rfl rfl) Try.func23 rfl rfl (Args.cons rfl (Args.cons rfl Args.nil)) (table_writer_list_T K (bx0 := b4_1) (wx0c0 := (γ_943 0)) (flx1 := false) e_945) (.cons rfl rfl (.cons rfl rfl (.nil))) (fun _ => rfl) (fun γ_946 => ?_))
      refine nm (.c (.c (.c (.c (.n))))) ?_
      refine TL'.nil (inBlock_normal (thenS_normal ?_))
      refine T.regionL ?_
      refine sp rfl (OpT.int2 rfl rfl (dl rfl rfl) rfl rfl ?_)
      refine mv rfl rfl rfl rfl rfl ?_
      refine TL'.nil (thenS_normal ?_)
      refine TL.by_turn ?_ (ih x0 x52_1_6 (IntKind.i64.wrap (x53_1_7 + (1 : Int))) v_944.b b1_1 b4_1 (γ_946 0) h)
      exact Turn.rp (.cons rfl (.cons rfl (.cons rfl (.cons rfl (.cons rfl (.nil _)))))) (.c (.s .z) (.c (.s .z) (.c (.s .z) (.n _))))
    · refine T.condF rfl c_937 ?_
      refine T.exit (thenS_exit (thenS_exit (inBlock_exit (thenS_normal ?_))))
      refine T.seq ?_
      refine T.seq ?_
      refine T.regionL ?_
      refine sp rfl (OpT.fieldPtr rfl (dl rfl rfl) Try.underlying28 rfl i26 (by decide) rfl ?_)
      refine sp rfl (OpT.loadRo (i := 0) rfl (dl rfl rfl) Try.underlying26 rfl rfl rfl rfl ?_)
      refine sp rfl (OpT.lenSlM (xs := x0.States) (f := c_api_State) rfl (dl rfl rfl) Try.underlying26 rfl ?_)
      refine mv rfl rfl rfl rfl rfl ?_
      refine TL'.nil (thenS_normal ?_)
      refine T.block ?_
      refine T.loop ?_
      refine TL.by_turn ?_ (table_Encode_l2_T K K x0 (x0.States.length : Int) (0 : Int) y4_1_4 b4_1 w4_1 h)
      exact Turn.rp (.cons rfl (.cons rfl (.cons rfl (.cons rfl (.nil _))))) (.c (.s .z) (.c (.s .z) (.n _)))

theorem table_Encode_l0_T {r : (List Int) × Int} (K : Nat) : ∀ (k : Nat), ∀ (x0 : api_Auto) (x35_0_6 : Int) (x36_0_7 : Int) (y4_0_4 : List Int) (b1_0 : Nat) (b4_0 : Nat) (w4_0 : Value), table_Encode_l0 K k x0 x35_0_6 x36_0_7 y4_0_4 = some r → TL Try.prog 119 (Code.at [1, 1, 1, 1, 0, 1, 0, 0] (codeOf Try.f10)) ⟨[(1, .ptr b1_0 0), (4, .ptr b4_0 0), (34, .sl false 2 (x0.Counts.map (Arr2.dc .i64))), (35, .int .i64 x35_0_6), (36, .int .i64 x36_0_7)], [.ro b1_0 ((ArrN.dc 256 .u8 x0.Split.Of) ++ (([.int .i64 x0.Split.Many, .sl false 2 (x0.Counts.map (Arr2.dc .i64)), .sl false 4 (x0.States.map c_api_State)] : List DC))), .box b4_0 54 [.d (.ex w4_0)], .arrA w4_0 5 1 (y4_0_4.map (cI .u8))]⟩ (table_Encode_qb0x11111 r) := by
  intro k
  induction k with
  | zero =>
    intro x0 x35_0_6 x36_0_7 y4_0_4 b1_0 b4_0 w4_0 h
    cases (show (none : Option ((List Int) × Int)) = some r from h)
  | succ k ih =>
    intro x0 x35_0_6 x36_0_7 y4_0_4 b1_0 b4_0 w4_0 h
    rw [table_Encode_l0] at h
    refine TL.round ?_
    refine T.seq ?_
    refine T.regionL ?_
    refine sp rfl (OpT.int2 rfl rfl (dl rfl rfl) rfl rfl ?_)
    refine TL'.nil (thenS_normal ?_)
    refine T.seq ?_
    rcases bif_some h with ⟨c_927, h⟩ | ⟨c_927, h⟩
    · refine T.condT rfl c_927 ?_
      refine T.skip (thenS_normal ?_)
      refine T.seq ?_
      refine T.block ?_
      refine T.seq ?_
      refine T.regionL ?_
      obtain ⟨v_928, e_929, h⟩ := bind_some h
      refine sp rfl (OpT.indexSlM (xs := x0.Counts) (f := (Arr2.dc .i64)) (v := v_928) rfl (dl rfl rfl) Try.underlying25 i42 rfl rfl e_929 ?_)
      refine sp rfl (OpT.loadRefAgg rfl (dl rfl rfl) Try.underlying42 rfl i42 rfl (Nat.le_of_ble_eq_true rfl) ?_)
      refine sp rfl (OpT.alloc' rfl (dl rfl rfl) i42 rfl (fun b_930 => ?_))
      refine sp rfl (OpT.storeAggTo (i := 0) (cells' := (Arr2.oc .i64 v_928)) rfl rfl i42 rfl rfl rfl rfl (Nat.le_of_ble_eq_true rfl) rfl ?_)
      refine TL'.nil (thenS_normal ?_)
      refine T.regionL ?_
      refine mv rfl rfl rfl rfl rfl ?_
      refine TL'.turn (Turn.freeze 0 (l := (Arr2.dc .i64 v_928)) rfl) ?_
      refine sp rfl (OpT.sliceRo (i := 0) (xs := ([v_928.a0, v_928.a1] : List Int)) (f := cI .i64) rfl (dl rfl rfl) Try.underlying42 i3 rfl rfl rfl (by decide) (lenAll rfl) rfl ?_)
      obtain ⟨v_931, e_932, h⟩ := bind_some h
      refine sp rfl (OpT.callG (is := [2, 3]) (ph := []) rfl (dl rfl rfl) Try.func22 rfl rfl (Args.cons rfl (Args.cons rfl Args.nil)) (table_writer_num_T K (bx0 := b4_0) (wx0c0 := w4_0) (flx1 := true) e_932) (.cons rfl rfl (.cons rfl rfl (.nil))) (fun _ => rfl) (fun γ_933 => ?_))
      refine nm (.c (.c (.c (.c (.n))))) ?_
      refine TL'.nil (inBlock_normal (thenS_normal ?_))
      refine T.regionL ?_
      refine sp rfl (OpT.int2 rfl rfl (dl rfl rfl) rfl rfl ?_)
      refine mv rfl rfl rfl rfl rfl ?_
      refine TL'.nil (thenS_normal ?_)
      refine TL.by_turn ?_ (ih x0 x35_0_6 (IntKind.i64.wrap (x36_0_7 + (1 : Int))) v_931.b b1_0 b4_0 (γ_933 0) h)
      exact Turn.rp (.cons rfl (.cons rfl (.cons rfl (.cons rfl (.cons rfl (.nil _)))))) (.c (.s .z) (.c (.s .z) (.c (.s .z) (.n _))))
    · refine T.condF rfl c_927 ?_
      refine T.exit (thenS_exit (thenS_exit (inBlock_exit (thenS_normal ?_))))
      refine T.seq ?_
      refine T.regionL ?_
      refine mv rfl rfl rfl rfl rfl ?_
      refine sp rfl (OpT.fieldPtr rfl (dl rfl rfl) Try.underlying28 rfl i26 (by decide) rfl ?_)
      refine sp rfl (OpT.loadRo (i := 0) rfl (dl rfl rfl) Try.underlying26 rfl rfl rfl rfl ?_)
      refine sp rfl (OpT.lenSlM (xs := x0.States) (f := c_api_State) rfl (dl rfl rfl) Try.underlying26 rfl ?_)
      refine sp rfl (OpT.buildSlice (elems := ([(x0.States.length : Int)] : List Int).map (cI .i64)) rfl (dl rfl rfl) Try.underlying56 i3 (by decide) rfl (all1 rfl) rfl rfl rfl (lenAll rfl) (by decide) ?_)
      obtain ⟨v_934, e_935, h⟩ := bind_some h
      refine sp rfl (OpT.callG (is := [1, 2]) (ph := []) rfl (dl rfl rfl) Try.func22 rfl rfl (Args.cons rfl (Args.cons rfl Args.nil)) (table_writer_num_T K (bx0 := b4_0) (wx0c0 := w4_0) (flx1 := true) e_935) (.cons rfl rfl (.cons rfl rfl (.nil))) (fun _ => rfl) (fun γ_936 => ?_))
      refine nm (.c (.c (.c (.n)))) ?_
      refine TL'.nil (thenS_normal ?_)
      refine T.seq ?_
      refine T.seq ?_
      refine T.regionL ?_
      refine sp rfl (OpT.fieldPtr rfl (dl rfl rfl) Try.underlying28 rfl i26 (by decide) rfl ?_)
      refine sp rfl (OpT.loadRo (i := 0) rfl (dl rfl rfl) Try.underlying26 rfl rfl rfl rfl ?_)
      refine sp rfl (OpT.lenSlM (xs := x0.States) (f := c_api_State) rfl (dl rfl rfl) Try.underlying26 rfl ?_)
      refine mv rfl rfl rfl rfl rfl ?_
      refine TL'.nil (thenS_normal ?_)
      refine T.block ?_
      refine T.loop ?_
      refine TL.by_turn ?_ (table_Encode_l1_T K K x0 (x0.States.length : Int) (0 : Int) v_934.b b1_0 b4_0 (γ_936 0) h)
      exact Turn.rp (.cons rfl (.cons rfl (.cons rfl (.cons rfl (.cons rfl (.nil _)))))) (.c .z (.c .z (.c .z (.n _))))

theorem table_Encode_T (K : Nat) {x0 : api_Auto} {r : (List Int) × Int} (h : table_Encode K x0 = some r) : CallR Try.prog 10 [.agg ((ArrN.dc 256 .u8 x0.Split.Of) ++ (([.int .i64 x0.Split.Many, .sl false 2 (x0.Counts.map (Arr2.dc .i64)), .sl false 4 (x0.States.map c_api_State)] : List DC)))] [] (.tup [.sl false 1 (r.1.map (cI .u8)), .int .i64 r.2]) := by
  refine CallT.intro Try.func10 rfl (Nat.le_of_ble_eq_true rfl) ?_
  show T Try.prog 119 (Code.at [] (codeOf Try.f10)) ⟨paramSlots 0 [.agg ((ArrN.dc 256 .u8 x0.Split.Of) ++ (([.int .i64 x0.Split.Many, .sl false 2 (x0.Counts.map (Arr2.dc .i64)), .sl false 4 (x0.States.map c_api_State)] : List DC)))], []⟩ (table_Encode_q r)
  unfold table_Encode at h
  refine T.seq ?_
  refine T.regionL ?_
  refine sp rfl (OpT.boxAgg rfl (dl rfl rfl) rfl (fun b_913 => ?_))
  refine asg rfl rfl rfl rfl rfl ?_
  refine asg rfl rfl rfl rfl rfl ?_
  refine TL'.nil (thenS_normal ?_)
  refine T.seq ?_
  refine T.seq ?_
  refine T.regionL ?_
  refine sp rfl (OpT.loadBoxAgg (i := 0) (l := ((ArrN.dc 256 .u8 x0.Split.Of) ++ (([.int .i64 x0.Split.Many, .sl false 2 (x0.Counts.map (Arr2.dc .i64)), .sl false 4 (x0.States.map c_api_State)] : List DC)))) rfl (dl rfl rfl) Try.underlying28 rfl i28 rfl rfl rfl rfl ?_)
  obtain ⟨v_914, e_915, h⟩ := bind_some h
  refine sp rfl (OpT.callPA rfl (dl rfl rfl) Try.func20 rfl rfl (Args.cons rfl Args.nil) (CallR.nil (auto_Right_T K e_915)) ?_)
  refine sp rfl (OpT.not rfl (dl rfl rfl) rfl ?_)
  refine TL'.nil (thenS_normal ?_)
  rcases bif_some h with ⟨c_916, h⟩ | ⟨c_916, h⟩
  · refine T.condT rfl c_916 ?_
    refine T.seq ?_
    refine T.regionL ?_
    refine asg rfl rfl rfl rfl rfl ?_
    refine asg rfl rfl rfl rfl rfl ?_
    refine TL'.nil (thenS_normal ?_)
    refine T.ret (thenS_ret ?_)
    refine Fin.turn (Turn.nilSl 2 false 1 rfl) ?_
    exact Fin.done (.cons _ _ _ _ (.tmp 2 _ rfl) (.cons _ _ _ _ (.tmp 3 _ rfl) .nil)) (by cases h; exact ⟨rfl, rfl⟩)
  · refine T.condF rfl c_916 ?_
    refine T.skip (thenS_normal ?_)
    refine T.seq ?_
    refine T.regionL ?_
    refine sp rfl (OpT.buildSliceX (elems := ([(114 : Int), (100 : Int), (100 : Int), (108 : Int)] : List Int).map (cI .u8)) rfl (dl rfl rfl) Try.underlying29 i5 (by decide) rfl (all1 rfl) rfl rfl rfl (lenAll rfl) (by decide) (fun b_917 => ?_))
    refine sp rfl (OpT.convSame (i := 0) (xs := [(114 : Int), (100 : Int), (100 : Int), (108 : Int)]) (f := (cI .u8)) rfl (dl rfl rfl) Try.underlying29 Try.underlying5 rfl rfl rfl (by decide) ?_)
    refine sp rfl (OpT.fieldPtr rfl (dl rfl rfl) Try.underlying28 rfl i24 (by decide) rfl ?_)
    refine sp rfl (OpT.fieldPtr rfl (dl rfl rfl) Try.underlying24 rfl i22 (by decide) rfl ?_)
    refine TL'.turn (Turn.freeze 1 (l := ((ArrN.dc 256 .u8 x0.Split.Of) ++ (([.int .i64 x0.Split.Many, .sl false 2 (x0.Counts.map (Arr2.dc .i64)), .sl false 4 (x0.States.map c_api_State)] : List DC)))) rfl) ?_
    refine sp rfl (OpT.sliceRo (i := 1) (xs := (ArrN.list 256 x0.Split.Of)) (f := cI .u8) rfl (dl rfl rfl) Try.underlying22 i5 rfl rfl ArrN.list_len (by decide) (fun y hy => by obtain ⟨a, _, rfl⟩ := List.mem_map.1 hy; rfl) (Eq.trans (by exact rfl) ArrN.dc_flat.symm) ?_)
    refine TL'.turn (Turn.unfull 19 rfl) ?_
    refine TL'.turn (Turn.unfull 22 rfl) ?_
    refine sp rfl (OpT.buildSlice (elems := ([[(114 : Int), (100 : Int), (100 : Int), (108 : Int)], (ArrN.list 256 x0.Split.Of)] : List (List Int)).map (cL 1 (cI .u8))) rfl (dl rfl rfl) Try.underlying94 i29 (by decide) rfl (all1 rfl) rfl rfl rfl (lenAll rfl) (by decide) ?_)
    refine TL'.turn Turn.keepPlace ?_
    obtain ⟨v_920, e_921, h⟩ := bind_some h
    refine sp rfl (OpT.callG (is := [0]) (ph := [.ro 0 []]) rfl (dl rfl rfl) Try.func21 rfl rfl (Args.cons rfl Args.nil) (slices_Concat_byte_T K (flx0 := true) e_921) (.cons rfl rfl (.nil)) (fun _ => rfl) (fun γ_922 => ?_))
    refine nm (.c (.c (.c (.n)))) ?_
    refine sp rfl (OpT.build (l := [.ex (γ_922 0)]) rfl (dl rfl rfl) (built_struct (pl := [(0, 1)]) Try.underlying54 i54 rfl) (all1 rfl) rfl rfl ?_)
    refine sp rfl (OpT.boxAgg rfl (dl rfl rfl) rfl (fun b_923 => ?_))
    refine asg rfl rfl rfl rfl rfl ?_
    refine TL'.nil (thenS_normal ?_)
    refine T.seq ?_
    refine T.regionL ?_
    refine mv rfl rfl rfl rfl rfl ?_
    refine sp rfl (OpT.fieldPtr rfl (dl rfl rfl) Try.underlying28 rfl i25 (by decide) rfl ?_)
    refine sp rfl (OpT.loadRo (i := 3) rfl (dl rfl rfl) Try.underlying25 rfl rfl rfl rfl ?_)
    refine sp rfl (OpT.lenSlM (xs := x0.Counts) (f := (Arr2.dc .i64)) rfl (dl rfl rfl) Try.underlying25 rfl ?_)
    refine sp rfl (OpT.buildSlice (elems := ([(x0.Counts.length : Int)] : List Int).map (cI .i64)) rfl (dl rfl rfl) Try.underlying56 i3 (by decide) rfl (all1 rfl) rfl rfl rfl (lenAll rfl) (by decide) ?_)
    obtain ⟨v_924, e_925, h⟩ := bind_some h
    refine sp rfl (OpT.callG (is := [0, 1]) (ph := []) rfl (dl rfl rfl) Try.func22 rfl rfl (Args.cons rfl (Args.cons rfl Args.nil)) (table_writer_num_T K (bx0 := b_923) (wx0c0 := (γ_922 0)) (flx1 := true) e_925) (.cons rfl rfl (.cons rfl rfl (.nil))) (fun _ => rfl) (fun γ_926 => ?_))
    refine nm (.c (.c (.c (.c (.n))))) ?_
    refine TL'.nil (thenS_normal ?_)
    refine T.seq ?_
    refine T.seq ?_
    refine T.regionL ?_
    refine sp rfl (OpT.fieldPtr rfl (dl rfl rfl) Try.underlying28 rfl i25 (by decide) rfl ?_)
    refine sp rfl (OpT.loadRo (i := 3) rfl (dl rfl rfl) Try.underlying25 rfl rfl rfl rfl ?_)
    refine sp rfl (OpT.lenSlM (xs := x0.Counts) (f := (Arr2.dc .i64)) rfl (dl rfl rfl) Try.underlying25 rfl ?_)
    refine mv rfl rfl rfl rfl rfl ?_
    refine TL'.nil (thenS_normal ?_)
    refine T.block ?_
    refine T.loop ?_
    refine TL.by_turn ?_ (table_Encode_l0_T K K x0 (x0.Counts.length : Int) (0 : Int) v_924.b b_913 b_923 (γ_926 0) h)
    exact Turn.rp (.cons rfl (.cons rfl (.cons rfl (.cons rfl (.cons rfl (.nil _)))))) (.c (.s (.s (.s .z))) (.c .z (.c .z (.n _))))

abbrev raddleref11_Codes_q (r : Int) : Exit → St → Prop := retS Try.prog Try.f50 (fun y t => y = (.int .i64 r) ∧ t = [])

abbrev raddleref11_Codes_qs11 (r : Int) : Exit → St → Prop := thenS (fun s' => T Try.prog 19 (Code.at [1, 1] (codeOf Try.f50)) s' ((raddleref11_Codes_q r))) ((raddleref11_Codes_q r))

abbrev raddleref11_Codes_qs1111 (r : Int) : Exit → St → Prop := thenS (fun s' => T Try.prog 19 (Code.at [1, 1, 1, 1] (codeOf Try.f50)) s' ((raddleref11_Codes_q r))) ((raddleref11_Codes_q r))

abbrev raddleref11_Codes_qb0x1111 (r : Int) : Exit → St → Prop := inBlockS 0 ((raddleref11_Codes_qs1111 r))

theorem raddleref11_Codes_j0_T {r : Int} (K : Nat) (h : raddleref11_Codes_j0 K = some r) : T Try.prog 19 (Code.at [1, 0, 1, 0] (codeOf Try.f50)) ⟨[], []⟩ (raddleref11_Codes_qs11 r) := by
  unfold raddleref11_Codes_j0 at h
  refine T.seq ?_
  refine T.regionL ?_
  refine asg rfl rfl rfl rfl rfl ?_
  refine TL'.nil (thenS_normal ?_)
  refine T.ret (thenS_ret ?_)
  exact Fin.done (.cons _ _ _ _ (.tmp 2 _ rfl) .nil) (by cases h; exact ⟨rfl, rfl⟩)

theorem raddleref11_Codes_l1_T {r : Int} (K : Nat) : ∀ (k : Nat), ∀ (x0 : Int) (x3_1_1 : Int) (x4_1_2 : Int), raddleref11_Codes_l1 K k x0 x3_1_1 x4_1_2 = some r → TL Try.prog 19 (Code.at [1, 1, 1, 0, 1, 0, 0] (codeOf Try.f50)) ⟨[(0, .int .i64 x0), (3, .int .i64 x3_1_1), (4, .int .i64 x4_1_2)], []⟩ (raddleref11_Codes_qb0x1111 r) := by
  intro k
  induction k with
  | zero =>
    intro x0 x3_1_1 x4_1_2 h
    cases (show (none : Option Int) = some r from h)
  | succ k ih =>
    intro x0 x3_1_1 x4_1_2 h
    rw [raddleref11_Codes_l1] at h
    refine TL.round ?_
    refine T.seq ?_
    refine T.seq ?_
    refine T.regionL ?_
    refine mv rfl rfl rfl rfl rfl ?_
    refine mv rfl rfl rfl rfl rfl ?_
    refine sp rfl (OpT.int2 rfl rfl (dl rfl rfl) rfl rfl ?_)
    refine TL'.nil (thenS_normal ?_)
    rcases bif_some h with ⟨c_27, h⟩ | ⟨c_27, h⟩
    · refine T.condT rfl c_27 ?_
      refine T.skip (thenS_normal ?_)
      refine T.seq ?_
      refine T.block ?_
      refine T.regionL ?_
      refine mv rfl rfl rfl rfl rfl ?_
      refine sp rfl (OpT.int2 rfl rfl (dl rfl rfl) rfl rfl ?_)
      refine asg rfl rfl rfl rfl rfl ?_
      refine TL'.nil (inBlock_normal (thenS_normal ?_))
      refine T.regionL ?_
      refine mv rfl rfl rfl rfl rfl ?_
      refine sp rfl (OpT.int2 rfl rfl (dl rfl rfl) rfl rfl ?_)
      refine asg rfl rfl rfl rfl rfl ?_
      refine TL'.nil (thenS_normal ?_)
      refine TL.by_turn ?_ (ih x0 (IntKind.i64.wrap (x3_1_1 * (3 : Int))) (IntKind.i64.wrap (x4_1_2 + (1 : Int))) h)
      exact Turn.rp (.cons rfl (.cons rfl (.cons rfl (.nil _)))) (.n _)
    · refine T.condF rfl c_27 ?_
      refine T.exit (thenS_exit (thenS_exit (inBlock_exit (thenS_normal ?_))))
      refine T.seq ?_
      refine T.regionL ?_
      refine mv rfl rfl rfl rfl rfl ?_
      refine asg rfl rfl rfl rfl rfl ?_
      refine TL'.nil (thenS_normal ?_)
      refine T.ret ?_
      exact Fin.done (.cons _ _ _ _ (.tmp 2 _ rfl) .nil) (by cases h; exact ⟨rfl, rfl⟩)

theorem raddleref11_Codes_T (K : Nat) {x0 : Int} {r : Int} (h : raddleref11_Codes K x0 = some r) : CallR Try.prog 50 [.int .i64 x0] [] (.int .i64 r) := by
  refine CallT.intro Try.func50 rfl (Nat.le_of_ble_eq_true rfl) ?_
  show T Try.prog 19 (Code.at [] (codeOf Try.f50)) ⟨paramSlots 0 [.int .i64 x0], []⟩ (raddleref11_Codes_q r)
  unfold raddleref11_Codes at h
  refine T.seq ?_
  refine T.regionL ?_
  refine asg rfl rfl rfl rfl rfl ?_
  refine TL'.nil (thenS_normal ?_)
  refine T.seq ?_
  refine T.seq ?_
  refine T.regionL ?_
  refine mv rfl rfl rfl rfl rfl ?_
  refine sp rfl (OpT.int2 rfl rfl (dl rfl rfl) rfl rfl ?_)
  refine mv rfl rfl rfl rfl rfl ?_
  rcases bif_some h with ⟨c_25, h⟩ | ⟨c_25, h⟩
  · refine TL'.passU (.off _ _ _ _ rfl rfl rfl c_25) (dl rfl rfl) ?_
    refine TL'.passU (.off _ _ _ _ rfl rfl rfl c_25) (dl rfl rfl) ?_
    refine sp rfl (OpT.pickT rfl (dl rfl rfl) rfl c_25 rfl ?_)
    refine TL'.nil (thenS_normal ?_)
    refine T.condT rfl rfl ?_
    refine T.by_turn ?_ (raddleref11_Codes_j0_T K h)
    exact Turn.rp (.nil _) (.n _)
  · refine TL'.step (.on rfl rfl rfl c_25) (OpT.move rfl (dl rfl rfl) rfl ?_)
    refine TL'.step (.on rfl rfl rfl c_25) (OpT.int2 rfl rfl (dl rfl rfl) rfl rfl ?_)
    refine sp rfl (OpT.pickF rfl (dl rfl rfl) rfl c_25 rfl ?_)
    refine TL'.nil (thenS_normal ?_)
    rcases bif_some h with ⟨c_26, h⟩ | ⟨c_26, h⟩
    · refine T.condT rfl c_26 ?_
      refine T.by_turn ?_ (raddleref11_Codes_j0_T K h)
      exact Turn.rp (.nil _) (.n _)
    · refine T.condF rfl c_26 ?_
      refine T.skip (thenS_normal ?_)
      refine T.seq ?_
      refine T.regionL ?_
      refine asg rfl rfl rfl rfl rfl ?_
      refine TL'.nil (thenS_normal ?_)
      refine T.seq ?_
      refine T.seq ?_
      refine T.regionL ?_
      refine asg rfl rfl rfl rfl rfl ?_
      refine TL'.nil (thenS_normal ?_)
      refine T.block ?_
      refine T.loop ?_
      refine TL.by_turn ?_ (raddleref11_Codes_l1_T K K x0 (1 : Int) (0 : Int) h)
      exact Turn.rp (.cons rfl (.cons rfl (.cons rfl (.nil _)))) (.n _)

abbrev raddleref11_in_q (r : Bool) : Exit → St → Prop := retS Try.prog Try.f84 (fun y t => y = (.bool r) ∧ t = [])

abbrev raddleref11_in_qs11 (r : Bool) : Exit → St → Prop := thenS (fun s' => T Try.prog 18 (Code.at [1, 1] (codeOf Try.f84)) s' ((raddleref11_in_q r))) ((raddleref11_in_q r))

abbrev raddleref11_in_qb0x11 (r : Bool) : Exit → St → Prop := inBlockS 0 ((raddleref11_in_qs11 r))

theorem raddleref11_in_l0_T {r : Bool} (K : Nat) : ∀ (k : Nat), ∀ (x0 : List Int) (x1 : Int) (x5_0_2 : Int) (flx0 : Bool), raddleref11_in_l0 K k x0 x1 x5_0_2 = some r → TL Try.prog 18 (Code.at [1, 0, 1, 0, 0] (codeOf Try.f84)) ⟨[(0, .sl flx0 1 (x0.map (cI .i64))), (1, .int .i64 x1), (5, .int .i64 x5_0_2)], []⟩ (raddleref11_in_qb0x11 r) := by
  intro k
  induction k with
  | zero =>
    intro x0 x1 x5_0_2 flx0 h
    cases (show (none : Option Bool) = some r from h)
  | succ k ih =>
    intro x0 x1 x5_0_2 flx0 h
    rw [raddleref11_in_l0] at h
    refine TL.round ?_
    refine T.seq ?_
    refine T.seq ?_
    refine T.regionL ?_
    refine mv rfl rfl rfl rfl rfl ?_
    refine mv rfl rfl rfl rfl rfl ?_
    refine sp rfl (OpT.lenSlM (xs := x0) (f := (cI .i64)) rfl (dl rfl rfl) Try.underlying56 rfl ?_)
    refine sp rfl (OpT.int2 rfl rfl (dl rfl rfl) rfl rfl ?_)
    refine TL'.nil (thenS_normal ?_)
    rcases bif_some h with ⟨c_37, h⟩ | ⟨c_37, h⟩
    · refine T.condT rfl c_37 ?_
      refine T.skip (thenS_normal ?_)
      refine T.seq ?_
      refine T.block ?_
      refine T.seq ?_
      refine T.regionL ?_
      refine mv rfl rfl rfl rfl rfl ?_
      refine mv rfl rfl rfl rfl rfl ?_
      obtain ⟨v_38, e_39, h⟩ := bind_some h
      refine sp rfl (OpT.indexSlM (xs := x0) (f := (cI .i64)) (v := v_38) rfl (dl rfl rfl) Try.underlying56 i3 rfl rfl e_39 ?_)
      refine sp rfl (OpT.loadRef rfl (dl rfl rfl) Try.underlying3 rfl rfl rfl ?_)
      refine mv rfl rfl rfl rfl rfl ?_
      refine sp rfl (OpT.int2 rfl rfl (dl rfl rfl) rfl rfl ?_)
      refine TL'.nil (thenS_normal ?_)
      rcases bif_some h with ⟨c_40, h⟩ | ⟨c_40, h⟩
      · refine T.condT rfl c_40 ?_
        refine T.seq ?_
        refine T.regionL ?_
        refine asg rfl rfl rfl rfl rfl ?_
        refine TL'.nil (thenS_normal ?_)
        refine T.ret (inBlock_ret (thenS_ret (thenS_ret (inBlock_ret (thenS_ret ?_)))))
        exact Fin.done (.cons _ _ _ _ (.tmp 4 _ rfl) .nil) (by cases h; exact ⟨rfl, rfl⟩)
      · refine T.condF rfl c_40 ?_
        refine T.skip (inBlock_normal (thenS_normal ?_))
        refine T.regionL ?_
        refine mv rfl rfl rfl rfl rfl ?_
        refine sp rfl (OpT.int2 rfl rfl (dl rfl rfl) rfl rfl ?_)
        refine asg rfl rfl rfl rfl rfl ?_
        refine TL'.nil (thenS_normal ?_)
        refine TL.by_turn ?_ (ih x0 x1 (IntKind.i64.wrap (x5_0_2 + (1 : Int))) flx0 h)
        exact Turn.rp (.cons rfl (.cons rfl (.cons rfl (.nil _)))) (.n _)
    · refine T.condF rfl c_37 ?_
      refine T.exit (thenS_exit (thenS_exit (inBlock_exit (thenS_normal ?_))))
      refine T.seq ?_
      refine T.regionL ?_
      refine asg rfl rfl rfl rfl rfl ?_
      refine TL'.nil (thenS_normal ?_)
      refine T.ret ?_
      exact Fin.done (.cons _ _ _ _ (.tmp 4 _ rfl) .nil) (by cases h; exact ⟨rfl, rfl⟩)

theorem raddleref11_in_T (K : Nat) {x0 : List Int} {x1 : Int} {flx0 : Bool} {r : Bool} (h : raddleref11_in K x0 x1 = some r) : CallR Try.prog 84 [.sl flx0 1 (x0.map (cI .i64)), .int .i64 x1] [] (.bool r) := by
  refine CallT.intro Try.func84 rfl (Nat.le_of_ble_eq_true rfl) ?_
  show T Try.prog 18 (Code.at [] (codeOf Try.f84)) ⟨paramSlots 0 [.sl flx0 1 (x0.map (cI .i64)), .int .i64 x1], []⟩ (raddleref11_in_q r)
  unfold raddleref11_in at h
  refine T.seq ?_
  refine T.regionL ?_
  refine asg rfl rfl rfl rfl rfl ?_
  refine TL'.nil (thenS_normal ?_)
  refine T.seq ?_
  refine T.seq ?_
  refine T.regionL ?_
  refine asg rfl rfl rfl rfl rfl ?_
  refine TL'.nil (thenS_normal ?_)
  refine T.block ?_
  refine T.loop ?_
  refine TL.by_turn ?_ (raddleref11_in_l0_T K K x0 x1 (0 : Int) flx0 h)
  exact Turn.rp (.cons rfl (.cons rfl (.cons rfl (.nil _)))) (.n _)

end Go.Rv

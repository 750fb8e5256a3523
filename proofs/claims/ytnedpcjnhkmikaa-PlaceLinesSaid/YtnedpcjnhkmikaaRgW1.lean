/- Each function computes what its plain text says: printed by a program of ours. -/
import Derived.Test.YtnedpcjnhkmikaaRgW0
namespace Go.Rv
open Go.Proofs
set_option maxRecDepth 100000
set_option linter.unusedVariables false

abbrev bytealg_LastIndexByte_q (r : Int) : Exit → St → Prop := retS Try.prog Try.f19 (fun y t => y = (.c (.ex (.int .i64 r))) ∧ t = [])

abbrev bytealg_LastIndexByte_qs11 (r : Int) : Exit → St → Prop := thenS (fun s' => T Try.prog 20 (Code.at [1, 1] (codeOf Try.f19)) s' ((bytealg_LastIndexByte_q r))) ((bytealg_LastIndexByte_q r))

abbrev bytealg_LastIndexByte_qb0x11 (r : Int) : Exit → St → Prop := inBlockS 0 ((bytealg_LastIndexByte_qs11 r))

theorem bytealg_LastIndexByte_l0_T {r : Int} (K : Nat) : ∀ (k : Nat), ∀ (x0 : List Int) (x1 : Int) (x5_0_2 : Int) (fl0 : Bool), bytealg_LastIndexByte_l0 K k x0 x1 x5_0_2 = some r → TL Try.prog 20 (Code.at [1, 0, 1, 0, 0] (codeOf Try.f19)) ⟨[(0, .c (.sl fl0 1 (x0.map (cI .u8)))), (1, .c (.ex (.int .u8 x1))), (5, .c (.ex (.int .i64 x5_0_2)))], []⟩ (bytealg_LastIndexByte_qb0x11 r) := by
  intro k
  induction k with
  | zero =>
    intro x0 x1 x5_0_2 fl0 h
    cases (show (none : Option Int) = some r from h)
  | succ k ih =>
    intro x0 x1 x5_0_2 fl0 h
    rw [bytealg_LastIndexByte_l0] at h
    refine TL.round ?_
    refine T.seq ?_
    refine T.seq ?_
    refine T.regionL ?_
    refine TL'.step (.free rfl) (OpT.move rfl (dlt rfl (by decide)) rfl ?_)
    refine TL'.step (.free rfl) (OpT.int2 rfl rfl (dlt rfl (by decide)) rfl rfl ?_)
    refine TL'.nil (thenS_normal ?_)
    rcases bif_some h with ⟨c_21, h⟩ | ⟨c_21, h⟩
    · refine T.condT rfl c_21 ?_
      refine T.skip (thenS_normal ?_)
      refine T.seq ?_
      refine T.block ?_
      refine T.seq ?_
      refine T.regionL ?_
      refine TL'.step (.free rfl) (OpT.move rfl (dlt rfl (by decide)) rfl ?_)
      refine TL'.step (.free rfl) (OpT.move rfl (dlt rfl (by decide)) rfl ?_)
      obtain ⟨v_22, e_23, h⟩ := bind_some h
      refine TL'.step (.free rfl) (OpT.indexSlM (xs := x0) (f := (cI .u8)) (v := v_22) rfl (dlt rfl (by decide)) Try.underlying24 i5 rfl rfl e_23 ?_)
      refine TL'.step (.free rfl) (OpT.loadRef rfl (dlt rfl (by decide)) Try.underlying5 rfl rfl rfl ?_)
      refine TL'.step (.free rfl) (OpT.move rfl (dlt rfl (by decide)) rfl ?_)
      refine TL'.step (.free rfl) (OpT.int2 rfl rfl (dlt rfl (by decide)) rfl rfl ?_)
      refine TL'.nil (thenS_normal ?_)
      rcases bif_some h with ⟨c_24, h⟩ | ⟨c_24, h⟩
      · refine T.condT rfl c_24 ?_
        refine T.seq ?_
        refine T.regionL ?_
        refine TL'.step (.free rfl) (OpT.move rfl (dlt rfl (by decide)) rfl ?_)
        refine TL'.step (.free rfl) (OpT.assign rfl (dlt rfl (by decide)) rfl ?_)
        refine TL'.nil (thenS_normal ?_)
        refine T.ret (inBlock_ret (thenS_ret (thenS_ret (inBlock_ret (thenS_ret ?_)))))
        exact Fin.done (.cons _ _ _ _ (.tmp 4 _ rfl) .nil) (by cases h; exact ⟨rfl, rfl⟩)
      · refine T.condF rfl c_24 ?_
        refine T.skip (inBlock_normal (thenS_normal ?_))
        refine T.regionL ?_
        refine TL'.step (.free rfl) (OpT.move rfl (dlt rfl (by decide)) rfl ?_)
        refine TL'.step (.free rfl) (OpT.int2 rfl rfl (dlt rfl (by decide)) rfl rfl ?_)
        refine TL'.step (.free rfl) (OpT.assign rfl (dlt rfl (by decide)) rfl ?_)
        refine TL'.nil (thenS_normal ?_)
        refine TL.by_turn ?_ (ih x0 x1 (IntKind.i64.wrap (x5_0_2 - (1 : Int))) fl0 h)
        exact Turn.re (.cons rfl (.cons rfl (.cons rfl (.nil _)))) (.nil _)
    · refine T.condF rfl c_21 ?_
      refine T.exit (thenS_exit (thenS_exit (inBlock_exit (thenS_normal ?_))))
      refine T.seq ?_
      refine T.regionL ?_
      refine TL'.step (.free rfl) (OpT.assign rfl (dlt rfl (by decide)) rfl ?_)
      refine TL'.nil (thenS_normal ?_)
      refine T.ret ?_
      exact Fin.done (.cons _ _ _ _ (.tmp 4 _ rfl) .nil) (by cases h; exact ⟨rfl, rfl⟩)

theorem bytealg_LastIndexByte_T {K : Nat} {x0 : List Int} {x1 : Int} {fl0 : Bool} {r : Int} (h : bytealg_LastIndexByte K x0 x1 = some r) : CallR Try.prog 19 [.c (.sl fl0 1 (x0.map (cI .u8))), .c (.ex (.int .u8 x1))] [] (.c (.ex (.int .i64 r))) := by
  refine CallT.intro Try.func19 rfl (Nat.le_of_ble_eq_true rfl) ?_
  show T Try.prog 20 (Code.at [] (codeOf Try.f19)) ⟨paramSlots 0 [.c (.sl fl0 1 (x0.map (cI .u8))), .c (.ex (.int .u8 x1))], []⟩ (bytealg_LastIndexByte_q r)
  unfold bytealg_LastIndexByte at h
  refine T.seq ?_
  refine T.regionL ?_
  refine TL'.step (.free rfl) (OpT.assign rfl (dlt rfl (by decide)) rfl ?_)
  refine TL'.nil (thenS_normal ?_)
  refine T.seq ?_
  refine T.seq ?_
  refine T.regionL ?_
  refine TL'.step (.free rfl) (OpT.move rfl (dlt rfl (by decide)) rfl ?_)
  refine TL'.step (.free rfl) (OpT.lenSlM (xs := x0) (f := (cI .u8)) rfl (dlt rfl (by decide)) Try.underlying24 rfl ?_)
  refine TL'.step (.free rfl) (OpT.int2 rfl rfl (dlt rfl (by decide)) rfl rfl ?_)
  refine TL'.step (.free rfl) (OpT.assign rfl (dlt rfl (by decide)) rfl ?_)
  refine TL'.nil (thenS_normal ?_)
  refine T.block ?_
  refine T.loop ?_
  refine TL.by_turn ?_ (bytealg_LastIndexByte_l0_T K K x0 x1 (IntKind.i64.wrap ((x0.length : Int) - (1 : Int))) fl0 h)
  exact Turn.re (.cons rfl (.cons rfl (.cons rfl (.nil _)))) (.nil _)

abbrev bytes_LastIndexByte_q (r : Int) : Exit → St → Prop := retS Try.prog Try.f16 (fun y t => y = (.c (.ex (.int .i64 r))) ∧ t = [])

theorem bytes_LastIndexByte_T {K : Nat} {x0 : List Int} {x1 : Int} {fl0 : Bool} {r : Int} (h : bytes_LastIndexByte K x0 x1 = some r) : CallR Try.prog 16 [.c (.sl fl0 1 (x0.map (cI .u8))), .c (.ex (.int .u8 x1))] [] (.c (.ex (.int .i64 r))) := by
  refine CallT.intro Try.func16 rfl (Nat.le_of_ble_eq_true rfl) ?_
  show T Try.prog 8 (Code.at [] (codeOf Try.f16)) ⟨paramSlots 0 [.c (.sl fl0 1 (x0.map (cI .u8))), .c (.ex (.int .u8 x1))], []⟩ (bytes_LastIndexByte_q r)
  unfold bytes_LastIndexByte at h
  refine T.seq ?_
  refine T.regionL ?_
  refine TL'.step (.free rfl) (OpT.assign rfl (dlt rfl (by decide)) rfl ?_)
  refine TL'.nil (thenS_normal ?_)
  refine T.seq ?_
  refine T.regionL ?_
  refine TL'.step (.free rfl) (OpT.move rfl (dlt rfl (by decide)) rfl ?_)
  refine TL'.step (.free rfl) (OpT.move rfl (dlt rfl (by decide)) rfl ?_)
  obtain ⟨v_7, e_8, h⟩ := bind_some h
  refine TL'.step (.free rfl) (OpT.callP rfl (dlt rfl (by decide)) Try.func19 rfl rfl rfl (CallR.nil (bytealg_LastIndexByte_T (fl0 := fl0) e_8)) ?_)
  refine TL'.step (.free rfl) (OpT.assign rfl (dlt rfl (by decide)) rfl ?_)
  refine TL'.nil (thenS_normal ?_)
  refine T.ret ?_
  exact Fin.done (.cons _ _ _ _ (.tmp 4 _ rfl) .nil) (by cases h; exact ⟨rfl, rfl⟩)

abbrev bytes_Count_q (r : Int) : Exit → St → Prop := retS Try.prog Try.f17 (fun y t => y = (.c (.ex (.int .i64 r))) ∧ t = [])

abbrev bytes_Count_qb0x (r : Int) : Exit → St → Prop := inBlockS 0 ((bytes_Count_q r))

theorem bytes_Count_l0_T {r : Int} (K : Nat) : ∀ (k : Nat), ∀ (x0 : List Int) (x1 : List Int) (fl0 : Bool) (fl1 : Bool), bytes_Count_l0 K k x0 x1 = some r → TL Try.prog 35 (Code.at [1, 1, 1, 1, 0, 0] (codeOf Try.f17)) ⟨[(0, .c (.sl fl0 1 (x0.map (cI .u8)))), (1, .c (.sl fl1 1 (x1.map (cI .u8)))), (5, .c (.ex (.int .i64 (0 : Int))))], []⟩ (bytes_Count_qb0x r) := by
  intro k
  induction k with
  | zero =>
    intro x0 x1 fl0 fl1 h
    cases (show (none : Option Int) = some r from h)
  | succ k ih =>
    intro x0 x1 fl0 fl1 h
    rw [bytes_Count_l0] at h
    refine TL.round ?_
    refine T.block ?_
    refine T.seq ?_
    refine T.regionL ?_
    refine TL'.step (.free rfl) (OpT.move rfl (dlt rfl (by decide)) rfl ?_)
    refine TL'.step (.free rfl) (OpT.move rfl (dlt rfl (by decide)) rfl ?_)
    cases h

theorem bytes_Count_T {K : Nat} {x0 : List Int} {x1 : List Int} {fl0 : Bool} {fl1 : Bool} {r : Int} (h : bytes_Count K x0 x1 = some r) : CallR Try.prog 17 [.c (.sl fl0 1 (x0.map (cI .u8))), .c (.sl fl1 1 (x1.map (cI .u8)))] [] (.c (.ex (.int .i64 r))) := by
  refine CallT.intro Try.func17 rfl (Nat.le_of_ble_eq_true rfl) ?_
  show T Try.prog 35 (Code.at [] (codeOf Try.f17)) ⟨paramSlots 0 [.c (.sl fl0 1 (x0.map (cI .u8))), .c (.sl fl1 1 (x1.map (cI .u8)))], []⟩ (bytes_Count_q r)
  unfold bytes_Count at h
  refine T.seq ?_
  refine T.regionL ?_
  refine TL'.step (.free rfl) (OpT.assign rfl (dlt rfl (by decide)) rfl ?_)
  refine TL'.nil (thenS_normal ?_)
  refine T.seq ?_
  refine T.seq ?_
  refine T.regionL ?_
  refine TL'.step (.free rfl) (OpT.move rfl (dlt rfl (by decide)) rfl ?_)
  refine TL'.step (.free rfl) (OpT.lenSlM (xs := x1) (f := (cI .u8)) rfl (dlt rfl (by decide)) Try.underlying24 rfl ?_)
  refine TL'.step (.free rfl) (OpT.int2 rfl rfl (dlt rfl (by decide)) rfl rfl ?_)
  refine TL'.nil (thenS_normal ?_)
  rcases bif_some h with ⟨c_21, h⟩ | ⟨c_21, h⟩
  · refine T.condT rfl c_21 ?_
    refine T.seq ?_
    refine T.regionL ?_
    refine TL'.step (.free rfl) (OpT.move rfl (dlt rfl (by decide)) rfl ?_)
    cases h
  · refine T.condF rfl c_21 ?_
    refine T.skip (thenS_normal ?_)
    refine T.seq ?_
    refine T.seq ?_
    refine T.regionL ?_
    refine TL'.step (.free rfl) (OpT.move rfl (dlt rfl (by decide)) rfl ?_)
    refine TL'.step (.free rfl) (OpT.lenSlM (xs := x1) (f := (cI .u8)) rfl (dlt rfl (by decide)) Try.underlying24 rfl ?_)
    refine TL'.step (.free rfl) (OpT.int2 rfl rfl (dlt rfl (by decide)) rfl rfl ?_)
    refine TL'.nil (thenS_normal ?_)
    rcases bif_some h with ⟨c_22, h⟩ | ⟨c_22, h⟩
    · refine T.condT rfl c_22 ?_
      refine T.seq ?_
      refine T.regionL ?_
      refine TL'.step (.free rfl) (OpT.move rfl (dlt rfl (by decide)) rfl ?_)
      refine TL'.step (.free rfl) (OpT.move rfl (dlt rfl (by decide)) rfl ?_)
      obtain ⟨v_23, e_24, h⟩ := bind_some h
      refine TL'.step (.free rfl) (OpT.indexSlM (xs := x1) (f := (cI .u8)) (v := v_23) rfl (dlt rfl (by decide)) Try.underlying24 i5 rfl rfl e_24 ?_)
      refine TL'.step (.free rfl) (OpT.loadRef rfl (dlt rfl (by decide)) Try.underlying5 rfl rfl rfl ?_)
      refine TL'.step (.free rfl) (OpT.countByte (xs := x0) rfl (dlt rfl (by decide)) Try.func21 rfl rfl (by kernel_rfl) (by kernel_rfl) rfl rfl ?_)
      refine TL'.step (.free rfl) (OpT.assign rfl (dlt rfl (by decide)) rfl ?_)
      refine TL'.nil (thenS_normal ?_)
      refine T.ret (thenS_ret ?_)
      exact Fin.done (.cons _ _ _ _ (.tmp 4 _ rfl) .nil) (by cases h; exact ⟨rfl, rfl⟩)
    · refine T.condF rfl c_22 ?_
      refine T.skip (thenS_normal ?_)
      refine T.seq ?_
      refine T.regionL ?_
      refine TL'.step (.free rfl) (OpT.assign rfl (dlt rfl (by decide)) rfl ?_)
      refine TL'.nil (thenS_normal ?_)
      refine T.block ?_
      refine T.loop ?_
      refine TL.by_turn ?_ (bytes_Count_l0_T K K x0 x1 fl0 fl1 h)
      exact Turn.re (.cons rfl (.cons rfl (.cons rfl (.nil _)))) (.nil _)

abbrev place_Next_q (r : api_Place) : Exit → St → Prop := retS Try.prog Try.f9 (fun y t => y = (.agg [.ex (.int .i64 r.Line), .ex (.int .i64 r.Col)]) ∧ t = [])

theorem place_Next_T {K : Nat} {x0 : api_Place} {x1 : List Int} {fl1 : Bool} {r : api_Place} (h : place_Next K x0 x1 = some r) : CallR Try.prog 9 [.agg [.ex (.int .i64 x0.Line), .ex (.int .i64 x0.Col)], .c (.sl fl1 1 (x1.map (cI .u8)))] [] (.agg [.ex (.int .i64 r.Line), .ex (.int .i64 r.Col)]) := by
  refine CallT.intro Try.func9 rfl (Nat.le_of_ble_eq_true rfl) ?_
  show T Try.prog 30 (Code.at [] (codeOf Try.f9)) ⟨paramSlots 0 [.agg [.ex (.int .i64 x0.Line), .ex (.int .i64 x0.Col)], .c (.sl fl1 1 (x1.map (cI .u8)))], []⟩ (place_Next_q r)
  unfold place_Next at h
  refine T.seq ?_
  refine T.regionL ?_
  refine TL'.step (.free rfl) (OpT.boxAgg rfl (dlt rfl (by decide)) rfl (fun b_33 => ?_))
  refine TL'.step (.free rfl) (OpT.alloc' rfl (dlt rfl (by decide)) i23 rfl (fun b_34 => ?_))
  refine TL'.nil (thenS_normal ?_)
  refine T.seq ?_
  refine T.regionL ?_
  refine TL'.step (.free rfl) (OpT.move rfl (dlt rfl (by decide)) rfl ?_)
  obtain ⟨v_35, e_36, h⟩ := bind_some h
  refine TL'.step (.free rfl) (OpT.callP rfl (dlt rfl (by decide)) Try.func16 rfl rfl rfl (CallR.nil (bytes_LastIndexByte_T (fl0 := fl1) e_36)) ?_)
  refine TL'.step (.free rfl) (OpT.assign rfl (dlt rfl (by decide)) rfl ?_)
  refine TL'.nil (thenS_normal ?_)
  refine T.seq ?_
  refine T.seq ?_
  refine T.regionL ?_
  refine TL'.step (.free rfl) (OpT.move rfl (dlt rfl (by decide)) rfl ?_)
  refine TL'.step (.free rfl) (OpT.int2 rfl rfl (dlt rfl (by decide)) rfl rfl ?_)
  refine TL'.nil (thenS_normal ?_)
  rcases bif_some h with ⟨c_37, h⟩ | ⟨c_37, h⟩
  · refine T.condT rfl c_37 ?_
    refine T.seq ?_
    refine T.regionL ?_
    refine TL'.step (.free rfl) (OpT.fieldPtr rfl (dlt rfl (by decide)) Try.underlying23 rfl i3 (by decide) rfl ?_)
    refine TL'.step (.free rfl) (OpT.loadBox (i := 1) rfl (dlt rfl (by decide)) Try.underlying3 rfl rfl rfl rfl ?_)
    refine TL'.step (.free rfl) (OpT.move rfl (dlt rfl (by decide)) rfl ?_)
    refine TL'.step (.free rfl) (OpT.lenSlM (xs := x1) (f := (cI .u8)) rfl (dlt rfl (by decide)) Try.underlying24 rfl ?_)
    refine TL'.step (.free rfl) (OpT.int2 rfl rfl (dlt rfl (by decide)) rfl rfl ?_)
    refine TL'.step (.free rfl) (OpT.fieldPtr rfl (dlt rfl (by decide)) Try.underlying23 rfl i3 (by decide) rfl ?_)
    refine TL'.step (.free rfl) (OpT.storeTo (i := 1) (cells' := [.d (.ex (.int .i64 x0.Line)), .d (.ex (.int .i64 (IntKind.i64.wrap (x0.Col + (x1.length : Int)))))]) rfl rfl i3 rfl rfl rfl (Nat.le_of_ble_eq_true rfl) rfl ?_)
    refine TL'.nil (thenS_normal ?_)
    refine T.seq ?_
    refine T.regionL ?_
    refine TL'.step (.free rfl) (OpT.loadBoxAgg (i := 1) (l := [.ex (.int .i64 x0.Line), .ex (.int .i64 (IntKind.i64.wrap (x0.Col + (x1.length : Int))))]) rfl (dlt rfl (by decide)) Try.underlying23 rfl i23 rfl rfl rfl rfl ?_)
    refine TL'.step (.free rfl) (OpT.storeAggTo (i := 0) (cells' := [.d (.ex (.int .i64 x0.Line)), .d (.ex (.int .i64 (IntKind.i64.wrap (x0.Col + (x1.length : Int)))))]) rfl rfl i23 rfl rfl rfl rfl (Nat.le_of_ble_eq_true rfl) rfl ?_)
    refine TL'.nil (thenS_normal ?_)
    refine T.ret (thenS_ret ?_)
    exact Fin.done (.cons _ _ _ _ (.cellAgg 4 23 _ 0 0 23 _ [.ex (.int .i64 x0.Line), .ex (.int .i64 (IntKind.i64.wrap (x0.Col + (x1.length : Int))))] _ _ 2 _ rfl rfl rfl rfl Try.underlying23 rfl i23) .nil) (by cases h; exact ⟨rfl, rfl⟩)
  · refine T.condF rfl c_37 ?_
    refine T.skip (thenS_normal ?_)
    refine T.seq ?_
    obtain ⟨v_39, e_40, h⟩ := bind_some h
    refine T.draw (s1 := ⟨[(1, .c (.sl fl1 1 (x1.map (cI .u8)))), (2, .c (.ex (.pointer (some ⟨b_33, 0, none⟩)))), (4, .c (.ex (.pointer (some ⟨b_34, 0, none⟩)))), (5, .c (.ex (.int .i64 v_35)))], [.box b_34 23 [.d (.ex (.int .i64 (0 : Int))), .d (.ex (.int .i64 (0 : Int)))], .box b_33 23 [.d (.ex (.int .i64 (IntKind.i64.wrap (x0.Line + v_39)))), .d (.ex (.int .i64 x0.Col))]]⟩) (ms := [0, 1, 0, 0, 12, 31, 63, 127]) TryMixed (.cons (c := ⟨some 17, .c (.ex (.pointer (some ⟨b_33, (0 + 0), none⟩))), [(2, .c (.ex (.pointer (some ⟨b_33, 0, none⟩))))], [], []⟩) (fun t hm => One.step rfl (.free rfl) (OpT.fieldPtr rfl (dlt rfl (by decide)) Try.underlying23 rfl i3 (by decide) (hm.slots (2, _) (.head _)) rfl)) (Ct.met_of rfl rfl) (.cons (c := ⟨some 18, .c (.ex (.int .i64 x0.Line)), [(17, .c (.ex (.pointer (some ⟨b_33, (0 + 0), none⟩))))], [(1, .box b_33 23 [.d (.ex (.int .i64 x0.Line)), .d (.ex (.int .i64 x0.Col))])], []⟩) (fun t hm => One.step rfl (.free rfl) (OpT.loadBox (i := 1) rfl (dlt rfl (by decide)) Try.underlying3 rfl (hm.slots (17, _) (.head _)) (hm.objs (1, _) (.head _)) rfl rfl)) (Ct.met_of rfl rfl) (.cons (c := ⟨some 19, .c (.sl fl1 1 (x1.map (cI .u8))), [(1, .c (.sl fl1 1 (x1.map (cI .u8))))], [], []⟩) (fun t hm => One.step rfl (.free rfl) (OpT.move rfl (dlt rfl (by decide)) (hm.slots (1, _) (.head _)) rfl)) (Ct.met_of rfl rfl) (.cons (c := ⟨some 20, .c (.sl true 1 ([(10 : Int)].map (cI .u8))), [], [], []⟩) (fun t hm => One.step rfl (.free rfl) (OpT.buildSlice (elems := ([(10 : Int)] : List Int).map (cI .u8)) rfl (dlt rfl (by decide)) Try.underlying24 i5 (by decide) rfl (all1 rfl) (parts_cons rfl rfl parts_nil) rfl rfl (lenAll rfl) (by decide) rfl)) (Ct.met_of rfl rfl) (.cons (c := ⟨some 21, .c (.ex (.int .i64 v_39)), [(19, .c (.sl fl1 1 (x1.map (cI .u8)))), (20, .c (.sl true 1 ([(10 : Int)].map (cI .u8))))], [], []⟩) (fun t hm => One.step rfl (.free rfl) (OpT.callP rfl (dlt rfl (by decide)) Try.func17 rfl rfl (evs_cons (hm.slots (19, _) (.head _)) (evs_cons (hm.slots (20, _) (.tail _ (.head _))) evs_nil)) (CallR.nil (bytes_Count_T (fl0 := fl1) (fl1 := true) e_40)) rfl)) (Ct.met_of rfl rfl) (.cons (c := ⟨some 22, .c (.ex (.int .i64 (IntKind.i64.wrap (x0.Line + v_39)))), [(18, .c (.ex (.int .i64 x0.Line))), (21, .c (.ex (.int .i64 v_39)))], [], []⟩) (fun t hm => One.step rfl (.free rfl) (OpT.int2 rfl rfl (dlt rfl (by decide)) (hm.slots (18, _) (.head _)) (hm.slots (21, _) (.tail _ (.head _))) rfl)) (Ct.met_of rfl rfl) (.cons (c := ⟨some 23, .c (.ex (.pointer (some ⟨b_33, (0 + 0), none⟩))), [(2, .c (.ex (.pointer (some ⟨b_33, 0, none⟩))))], [], []⟩) (fun t hm => One.step rfl (.free rfl) (OpT.fieldPtr rfl (dlt rfl (by decide)) Try.underlying23 rfl i3 (by decide) (hm.slots (2, _) (.head _)) rfl)) (Ct.met_of rfl rfl) (.cons (c := ⟨none, .any, [(23, .c (.ex (.pointer (some ⟨b_33, (0 + 0), none⟩)))), (22, .c (.ex (.int .i64 (IntKind.i64.wrap (x0.Line + v_39)))))], [(1, .box b_33 23 [.d (.ex (.int .i64 x0.Line)), .d (.ex (.int .i64 x0.Col))])], [(1, .box b_33 23 [.d (.ex (.int .i64 (IntKind.i64.wrap (x0.Line + v_39)))), .d (.ex (.int .i64 x0.Col))])]⟩) (fun t hm => One.step rfl (.free rfl) (OpT.storeTo (i := 1) (cells' := [.d (.ex (.int .i64 (IntKind.i64.wrap (x0.Line + v_39)))), .d (.ex (.int .i64 x0.Col))]) rfl rfl i3 (hm.slots (23, _) (.head _)) (hm.slots (22, _) (.tail _ (.head _))) (hm.objs (1, _) (.head _)) (Nat.le_of_ble_eq_true rfl) rfl rfl)) (Ct.met_of rfl rfl) (.nil _ _))))))))) rfl (by kernel_rfl) (by kernel_rfl) (by kernel_rfl) (.cons rfl (.cons rfl (.cons rfl (.cons rfl (.nil _))))) rfl (fun u hu => (thenS_normal (T.by_turn hu ?_)))
    refine T.seq ?_
    refine T.regionL ?_
    refine TL'.step (.free rfl) (OpT.move rfl (dlt rfl (by decide)) rfl ?_)
    refine TL'.step (.free rfl) (OpT.lenSlM (xs := x1) (f := (cI .u8)) rfl (dlt rfl (by decide)) Try.underlying24 rfl ?_)
    refine TL'.step (.free rfl) (OpT.move rfl (dlt rfl (by decide)) rfl ?_)
    refine TL'.step (.free rfl) (OpT.int2 rfl rfl (dlt rfl (by decide)) rfl rfl ?_)
    refine TL'.step (.free rfl) (OpT.fieldPtr rfl (dlt rfl (by decide)) Try.underlying23 rfl i3 (by decide) rfl ?_)
    refine TL'.step (.free rfl) (OpT.storeTo (i := 1) (cells' := [.d (.ex (.int .i64 (IntKind.i64.wrap (x0.Line + v_39)))), .d (.ex (.int .i64 (IntKind.i64.wrap ((x1.length : Int) - v_35))))]) rfl rfl i3 rfl rfl rfl (Nat.le_of_ble_eq_true rfl) rfl ?_)
    refine TL'.nil (thenS_normal ?_)
    refine T.seq ?_
    refine T.regionL ?_
    refine TL'.step (.free rfl) (OpT.loadBoxAgg (i := 1) (l := [.ex (.int .i64 (IntKind.i64.wrap (x0.Line + v_39))), .ex (.int .i64 (IntKind.i64.wrap ((x1.length : Int) - v_35)))]) rfl (dlt rfl (by decide)) Try.underlying23 rfl i23 rfl rfl rfl rfl ?_)
    refine TL'.step (.free rfl) (OpT.storeAggTo (i := 0) (cells' := [.d (.ex (.int .i64 (IntKind.i64.wrap (x0.Line + v_39)))), .d (.ex (.int .i64 (IntKind.i64.wrap ((x1.length : Int) - v_35))))]) rfl rfl i23 rfl rfl rfl rfl (Nat.le_of_ble_eq_true rfl) rfl ?_)
    refine TL'.nil (thenS_normal ?_)
    refine T.ret ?_
    exact Fin.done (.cons _ _ _ _ (.cellAgg 4 23 _ 0 0 23 _ [.ex (.int .i64 (IntKind.i64.wrap (x0.Line + v_39))), .ex (.int .i64 (IntKind.i64.wrap ((x1.length : Int) - v_35)))] _ _ 2 _ rfl rfl rfl rfl Try.underlying23 rfl i23) .nil) (by cases h; exact ⟨rfl, rfl⟩)

abbrev place_Start_q (r : api_Place) : Exit → St → Prop := retS Try.prog Try.f10 (fun y t => y = (.agg [.ex (.int .i64 r.Line), .ex (.int .i64 r.Col)]) ∧ t = [])

theorem place_Start_T {K : Nat} {r : api_Place} (h : place_Start K = some r) : CallR Try.prog 10 [] [] (.agg [.ex (.int .i64 r.Line), .ex (.int .i64 r.Col)]) := by
  refine CallT.intro Try.func10 rfl (Nat.le_of_ble_eq_true rfl) ?_
  show T Try.prog 2 (Code.at [] (codeOf Try.f10)) ⟨paramSlots 0 [], []⟩ (place_Start_q r)
  unfold place_Start at h
  refine T.seq ?_
  refine T.regionL ?_
  refine TL'.step (.free rfl) (OpT.alloc' rfl (dlt rfl (by decide)) i23 rfl (fun b_4 => ?_))
  refine TL'.nil (thenS_normal ?_)
  refine T.seq ?_
  refine T.regionL ?_
  refine TL'.step (.free rfl) (OpT.build (l := [.ex (.int .i64 (1 : Int)), .ex (.int .i64 (1 : Int))]) rfl (dlt rfl (by decide)) (built_struct (pl := [(0, 1), (1, 1)]) Try.underlying23 i23 rfl) (all1 rfl) rfl rfl ?_)
  refine TL'.step (.free rfl) (OpT.storeAggTo (i := 0) (cells' := [.d (.ex (.int .i64 (1 : Int))), .d (.ex (.int .i64 (1 : Int)))]) rfl rfl i23 rfl rfl rfl rfl (Nat.le_of_ble_eq_true rfl) rfl ?_)
  refine TL'.nil (thenS_normal ?_)
  refine T.ret ?_
  exact Fin.done (.cons _ _ _ _ (.cellAgg 0 23 _ 0 0 23 _ [.ex (.int .i64 (1 : Int)), .ex (.int .i64 (1 : Int))] _ _ 2 _ rfl rfl rfl rfl Try.underlying23 rfl i23) .nil) (by cases h; exact ⟨rfl, rfl⟩)

abbrev place_Of_q (r : api_Place × Bool) : Exit → St → Prop := retS Try.prog Try.f11 (fun y t => y = (.tup [.agg [.ex (.int .i64 r.1.Line), .ex (.int .i64 r.1.Col)], .c (.ex (.bool r.2))]) ∧ t = [])

abbrev place_Of_qs11 (r : api_Place × Bool) : Exit → St → Prop := thenS (fun s' => T Try.prog 20 (Code.at [1, 1] (codeOf Try.f11)) s' ((place_Of_q r))) ((place_Of_q r))

theorem place_Of_j0_T {r : api_Place × Bool} (K : Nat) (b4_0 : Nat) (h : place_Of_j0 K = some r) : T Try.prog 20 (Code.at [1, 0, 1, 0] (codeOf Try.f11)) ⟨[(4, .c (.ex (.pointer (some ⟨b4_0, 0, none⟩))))], [.box b4_0 23 [.d (.ex (.int .i64 (0 : Int))), .d (.ex (.int .i64 (0 : Int)))]]⟩ (place_Of_qs11 r) := by
  unfold place_Of_j0 at h
  refine T.seq ?_
  refine T.regionL ?_
  refine TL'.step (.free rfl) (OpT.build (l := [.ex (.int .i64 (0 : Int)), .ex (.int .i64 (0 : Int))]) rfl (dlt rfl (by decide)) (built_struct (pl := [(0, 1), (1, 1)]) Try.underlying23 i23 rfl) (all1 rfl) rfl rfl ?_)
  refine TL'.step (.free rfl) (OpT.storeAggTo (i := 0) (cells' := [.d (.ex (.int .i64 (0 : Int))), .d (.ex (.int .i64 (0 : Int)))]) rfl rfl i23 rfl rfl rfl rfl (Nat.le_of_ble_eq_true rfl) rfl ?_)
  refine TL'.step (.free rfl) (OpT.assign rfl (dlt rfl (by decide)) rfl ?_)
  refine TL'.nil (thenS_normal ?_)
  refine T.ret (thenS_ret ?_)
  exact Fin.done (.cons _ _ _ _ (.cellAgg 4 23 _ 0 0 23 _ [.ex (.int .i64 (0 : Int)), .ex (.int .i64 (0 : Int))] _ _ 2 _ rfl rfl rfl rfl Try.underlying23 rfl i23) (.cons _ _ _ _ (.tmp 5 _ rfl) .nil)) (by cases h; exact ⟨rfl, rfl⟩)

theorem place_Of_T {K : Nat} {x0 : List Int} {x1 : Int} {fl0 : Bool} {r : api_Place × Bool} (h : place_Of K x0 x1 = some r) : CallR Try.prog 11 [.c (.sl fl0 1 (x0.map (cI .u8))), .c (.ex (.int .i64 x1))] [] (.tup [.agg [.ex (.int .i64 r.1.Line), .ex (.int .i64 r.1.Col)], .c (.ex (.bool r.2))]) := by
  refine CallT.intro Try.func11 rfl (Nat.le_of_ble_eq_true rfl) ?_
  show T Try.prog 20 (Code.at [] (codeOf Try.f11)) ⟨paramSlots 0 [.c (.sl fl0 1 (x0.map (cI .u8))), .c (.ex (.int .i64 x1))], []⟩ (place_Of_q r)
  unfold place_Of at h
  refine T.seq ?_
  refine T.regionL ?_
  refine TL'.step (.free rfl) (OpT.alloc' rfl (dlt rfl (by decide)) i23 rfl (fun b_46 => ?_))
  refine TL'.step (.free rfl) (OpT.assign rfl (dlt rfl (by decide)) rfl ?_)
  refine TL'.nil (thenS_normal ?_)
  refine T.seq ?_
  refine T.seq ?_
  refine T.regionL ?_
  refine TL'.step (.free rfl) (OpT.move rfl (dlt rfl (by decide)) rfl ?_)
  refine TL'.step (.free rfl) (OpT.int2 rfl rfl (dlt rfl (by decide)) rfl rfl ?_)
  refine TL'.step (.free rfl) (OpT.move rfl (dlt rfl (by decide)) rfl ?_)
  rcases bif_some h with ⟨c_47, h⟩ | ⟨c_47, h⟩
  · refine TL'.passU (.off _ _ _ _ rfl rfl rfl c_47) (dlt rfl (by decide)) ?_
    refine TL'.passU (.off _ _ _ _ rfl rfl rfl c_47) (dlt rfl (by decide)) ?_
    refine TL'.passU (.off _ _ _ _ rfl rfl rfl c_47) (dlt rfl (by decide)) ?_
    refine TL'.passU (.off _ _ _ _ rfl rfl rfl c_47) (dlt rfl (by decide)) ?_
    refine TL'.step (.free rfl) (OpT.pickT rfl (dlt rfl (by decide)) rfl c_47 rfl ?_)
    refine TL'.nil (thenS_normal ?_)
    refine T.condT rfl rfl ?_
    refine T.by_turn ?_ (place_Of_j0_T K b_46 h)
    exact Turn.re (.cons rfl (.nil _)) (.cons 0 rfl (.nil _))
  · refine TL'.step (.on rfl rfl rfl c_47) (OpT.move rfl (dlt rfl (by decide)) rfl ?_)
    refine TL'.step (.on rfl rfl rfl c_47) (OpT.move rfl (dlt rfl (by decide)) rfl ?_)
    refine TL'.step (.on rfl rfl rfl c_47) (OpT.lenSlM (xs := x0) (f := (cI .u8)) rfl (dlt rfl (by decide)) Try.underlying24 rfl ?_)
    refine TL'.step (.on rfl rfl rfl c_47) (OpT.int2 rfl rfl (dlt rfl (by decide)) rfl rfl ?_)
    refine TL'.step (.free rfl) (OpT.pickF rfl (dlt rfl (by decide)) rfl c_47 rfl ?_)
    refine TL'.nil (thenS_normal ?_)
    rcases bif_some h with ⟨c_48, h⟩ | ⟨c_48, h⟩
    · refine T.condT rfl c_48 ?_
      refine T.by_turn ?_ (place_Of_j0_T K b_46 h)
      exact Turn.re (.cons rfl (.nil _)) (.cons 0 rfl (.nil _))
    · refine T.condF rfl c_48 ?_
      refine T.skip (thenS_normal ?_)
      refine T.seq ?_
      obtain ⟨v_50, e_51, h⟩ := bind_some h
      obtain ⟨g_52, h⟩ := ck_some h
      obtain ⟨v_53, e_54, h⟩ := bind_some h
      refine T.draw (s1 := ⟨[(4, .c (.ex (.pointer (some ⟨b_46, 0, none⟩)))), (5, .c (.ex (.bool true)))], [.box b_46 23 [.d (.ex (.int .i64 v_53.Line)), .d (.ex (.int .i64 v_53.Col))]]⟩) (ms := [0, 0, 0, 6, 15, 31, 63]) TryMixed (.cons (c := ⟨some 15, .agg [.ex (.int .i64 v_50.Line), .ex (.int .i64 v_50.Col)], [], [], []⟩) (fun t hm => One.step rfl (.free rfl) (OpT.callP rfl (dlt rfl (by decide)) Try.func10 rfl rfl evs_nil (CallR.nil (place_Start_T e_51)) rfl)) (Ct.met_of rfl rfl) (.cons (c := ⟨some 16, .c (.sl fl0 1 (x0.map (cI .u8))), [(0, .c (.sl fl0 1 (x0.map (cI .u8))))], [], []⟩) (fun t hm => One.step rfl (.free rfl) (OpT.move rfl (dlt rfl (by decide)) (hm.slots (0, _) (.head _)) rfl)) (Ct.met_of rfl rfl) (.cons (c := ⟨some 17, .c (.ex (.int .i64 x1)), [(1, .c (.ex (.int .i64 x1)))], [], []⟩) (fun t hm => One.step rfl (.free rfl) (OpT.move rfl (dlt rfl (by decide)) (hm.slots (1, _) (.head _)) rfl)) (Ct.met_of rfl rfl) (.cons (c := ⟨some 18, .c (.sl false 1 (((x0.take (Int.toNat x1)).drop 0).map (cI .u8))), [(16, .c (.sl fl0 1 (x0.map (cI .u8)))), (17, .c (.ex (.int .i64 x1)))], [], []⟩) (fun t hm => One.step rfl (.free rfl) (OpT.sliceM (xs := x0) (f := (cI .u8)) (l := 0) (h := (Int.toNat x1)) rfl (dlt rfl (by decide)) Try.underlying24 i5 (hm.slots (16, _) (.head _)) (.none _) (.some _ _ _ _ (hm.slots (17, _) (.tail _ (.head _))) g_52.1) g_52.2.1 g_52.2.2 rfl)) (Ct.met_of rfl rfl) (.cons (c := ⟨some 19, .agg [.ex (.int .i64 v_53.Line), .ex (.int .i64 v_53.Col)], [(15, .agg [.ex (.int .i64 v_50.Line), .ex (.int .i64 v_50.Col)]), (18, .c (.sl false 1 (((x0.take (Int.toNat x1)).drop 0).map (cI .u8))))], [], []⟩) (fun t hm => One.step rfl (.free rfl) (OpT.callP rfl (dlt rfl (by decide)) Try.func9 rfl rfl (evs_cons (hm.slots (15, _) (.head _)) (evs_cons (hm.slots (18, _) (.tail _ (.head _))) evs_nil)) (CallR.nil (place_Next_T (fl1 := false) e_54)) rfl)) (Ct.met_of rfl rfl) (.cons (c := ⟨none, .any, [(4, .c (.ex (.pointer (some ⟨b_46, 0, none⟩)))), (19, .agg [.ex (.int .i64 v_53.Line), .ex (.int .i64 v_53.Col)])], [(0, .box b_46 23 [.d (.ex (.int .i64 (0 : Int))), .d (.ex (.int .i64 (0 : Int)))])], [(0, .box b_46 23 [.d (.ex (.int .i64 v_53.Line)), .d (.ex (.int .i64 v_53.Col))])]⟩) (fun t hm => One.step rfl (.free rfl) (OpT.storeAggTo (i := 0) (cells' := [.d (.ex (.int .i64 v_53.Line)), .d (.ex (.int .i64 v_53.Col))]) rfl rfl i23 (hm.slots (4, _) (.head _)) (hm.slots (19, _) (.tail _ (.head _))) rfl (hm.objs (0, _) (.head _)) (Nat.le_of_ble_eq_true rfl) rfl rfl)) (Ct.met_of rfl rfl) (.cons (c := ⟨some 5, .c (.ex (.bool true)), [], [], []⟩) (fun t hm => One.step rfl (.free rfl) (OpT.assign rfl (dlt rfl (by decide)) rfl rfl)) (Ct.met_of rfl rfl) (.nil _ _)))))))) rfl (by kernel_rfl) (by kernel_rfl) (by kernel_rfl) (.cons rfl (.cons rfl (.nil _))) rfl (fun u hu => (thenS_normal (T.by_turn hu ?_)))
      refine T.ret ?_
      exact Fin.done (.cons _ _ _ _ (.cellAgg 4 23 _ 0 0 23 _ [.ex (.int .i64 v_53.Line), .ex (.int .i64 v_53.Col)] _ _ 2 _ rfl rfl rfl rfl Try.underlying23 rfl i23) (.cons _ _ _ _ (.tmp 5 _ rfl) .nil)) (by cases h; exact ⟨rfl, rfl⟩)

abbrev raddlelaw19_shown_q (r : Bool) : Exit → St → Prop := retS Try.prog Try.f7 (fun y t => y = (.c (.ex (.bool r))) ∧ t = [])

theorem raddlelaw19_shown_T {K : Nat} {r : Bool} (h : raddlelaw19_shown K = some r) : CallR Try.prog 7 [] [] (.c (.ex (.bool r))) := by
  refine CallT.intro Try.func7 rfl (Nat.le_of_ble_eq_true rfl) ?_
  show T Try.prog 31 (Code.at [] (codeOf Try.f7)) ⟨paramSlots 0 [], []⟩ (raddlelaw19_shown_q r)
  unfold raddlelaw19_shown at h
  refine T.seq ?_
  refine T.regionL ?_
  refine TL'.step (.free rfl) (OpT.assign rfl (dlt rfl (by decide)) rfl ?_)
  refine TL'.nil (thenS_normal ?_)
  refine T.seq ?_
  refine T.regionL ?_
  refine TL'.step (.free rfl) (OpT.buildSliceA (elems := ([(97 : Int), (10 : Int), (98 : Int)] : List Int).map (cI .u8)) rfl (dlt rfl (by decide)) Try.underlying24 i5 (by decide) rfl (all1 rfl) rfl rfl rfl (lenAll rfl) (by decide) (fun w_53 => ?_))
  refine TL'.step (.free rfl) (OpT.convSame (i := 0) (xs := [(97 : Int), (10 : Int), (98 : Int)]) (f := (cI .u8)) rfl (dlt rfl (by decide)) Try.underlying24 Try.underlying5 rfl rfl (by decide) ?_)
  obtain ⟨v_55, e_56, h⟩ := bind_some h
  refine TL'.step (.free rfl) (OpT.callP rfl (dlt rfl (by decide)) Try.func11 rfl rfl rfl (CallR.nil (place_Of_T (fl0 := false) e_56)) ?_)
  refine TL'.step (.free rfl) (OpT.move rfl (dlt rfl (by decide)) rfl ?_)
  refine TL'.step (.free rfl) (OpT.extract rfl (dlt rfl (by decide)) rfl rfl ?_)
  refine TL'.step (.free rfl) (OpT.extract rfl (dlt rfl (by decide)) rfl rfl ?_)
  refine TL'.step (.free rfl) (OpT.alloc' rfl (dlt rfl (by decide)) i23 rfl (fun b_57 => ?_))
  refine TL'.step (.free rfl) (OpT.storeAggTo (i := 0) (cells' := [.d (.ex (.int .i64 v_55.1.Line)), .d (.ex (.int .i64 v_55.1.Col))]) rfl rfl i23 rfl rfl rfl rfl (Nat.le_of_ble_eq_true rfl) rfl ?_)
  refine TL'.step (.free rfl) (OpT.assign rfl (dlt rfl (by decide)) rfl ?_)
  refine TL'.nil (thenS_normal ?_)
  refine T.seq ?_
  refine T.regionL ?_
  refine TL'.step (.free rfl) (OpT.buildSliceA (elems := ([(97 : Int), (10 : Int), (98 : Int)] : List Int).map (cI .u8)) rfl (dlt rfl (by decide)) Try.underlying24 i5 (by decide) rfl (all1 rfl) rfl rfl rfl (lenAll rfl) (by decide) (fun w_58 => ?_))
  refine TL'.step (.free rfl) (OpT.convSame (i := 0) (xs := [(97 : Int), (10 : Int), (98 : Int)]) (f := (cI .u8)) rfl (dlt rfl (by decide)) Try.underlying24 Try.underlying5 rfl rfl (by decide) ?_)
  obtain ⟨v_60, e_61, h⟩ := bind_some h
  refine TL'.step (.free rfl) (OpT.callP rfl (dlt rfl (by decide)) Try.func11 rfl rfl rfl (CallR.nil (place_Of_T (fl0 := false) e_61)) ?_)
  refine TL'.step (.free rfl) (OpT.move rfl (dlt rfl (by decide)) rfl ?_)
  refine TL'.step (.free rfl) (OpT.extract rfl (dlt rfl (by decide)) rfl rfl ?_)
  refine TL'.step (.free rfl) (OpT.extract rfl (dlt rfl (by decide)) rfl rfl ?_)
  refine TL'.step (.free rfl) (OpT.alloc' rfl (dlt rfl (by decide)) i23 rfl (fun b_62 => ?_))
  refine TL'.step (.free rfl) (OpT.storeAggTo (i := 0) (cells' := [.d (.ex (.int .i64 v_60.1.Line)), .d (.ex (.int .i64 v_60.1.Col))]) rfl rfl i23 rfl rfl rfl rfl (Nat.le_of_ble_eq_true rfl) rfl ?_)
  refine TL'.step (.free rfl) (OpT.assign rfl (dlt rfl (by decide)) rfl ?_)
  refine TL'.nil (thenS_normal ?_)
  refine T.seq ?_
  refine T.regionL ?_
  refine TL'.step (.free rfl) (OpT.move rfl (dlt rfl (by decide)) rfl ?_)
  refine TL'.step (.free rfl) (OpT.move rfl (dlt rfl (by decide)) rfl ?_)
  rcases bif_some h with ⟨c_63, h⟩ | ⟨c_63, h⟩
  · refine TL'.step (.on rfl rfl rfl c_63) (OpT.move rfl (dlt rfl (by decide)) rfl ?_)
    refine TL'.step (.free rfl) (OpT.pickT rfl (dlt rfl (by decide)) rfl c_63 rfl ?_)
    refine TL'.step (.free rfl) (OpT.move rfl (dlt rfl (by decide)) rfl ?_)
    rcases bif_some h with ⟨c_64, h⟩ | ⟨c_64, h⟩
    · refine TL'.step (.on rfl rfl rfl c_64) (OpT.loadBoxAgg (i := 2) (l := [.ex (.int .i64 v_55.1.Line), .ex (.int .i64 v_55.1.Col)]) rfl (dlt rfl (by decide)) Try.underlying23 rfl i23 rfl rfl rfl rfl ?_)
      refine TL'.step (.on rfl rfl rfl c_64) (OpT.build (l := [.ex (.int .i64 (2 : Int)), .ex (.int .i64 (1 : Int))]) rfl (dlt rfl (by decide)) (built_struct (pl := [(0, 1), (1, 1)]) Try.underlying23 i23 rfl) (all1 rfl) rfl rfl ?_)
      refine TL'.step (.on rfl rfl rfl c_64) (OpT.structEql (ks := [.i64, .i64]) (us := ([v_55.1.Line, v_55.1.Col] : List Int)) (ys := ([(2 : Int), (1 : Int)] : List Int)) rfl (dlt rfl (by decide)) Try.underlying23 Try.stoodInHeld23 (by kernel_rfl) Try.eqGuardType23 rfl rfl rfl rfl rfl rfl rfl ?_)
      refine TL'.step (.free rfl) (OpT.pickT rfl (dlt rfl (by decide)) rfl c_64 rfl ?_)
      refine TL'.step (.free rfl) (OpT.move rfl (dlt rfl (by decide)) rfl ?_)
      rcases bif_some h with ⟨c_65, h⟩ | ⟨c_65, h⟩
      · refine TL'.step (.on rfl rfl rfl c_65) (OpT.loadBoxAgg (i := 0) (l := [.ex (.int .i64 v_60.1.Line), .ex (.int .i64 v_60.1.Col)]) rfl (dlt rfl (by decide)) Try.underlying23 rfl i23 rfl rfl rfl rfl ?_)
        refine TL'.step (.on rfl rfl rfl c_65) (OpT.build (l := [.ex (.int .i64 (2 : Int)), .ex (.int .i64 (2 : Int))]) rfl (dlt rfl (by decide)) (built_struct (pl := [(0, 1), (1, 1)]) Try.underlying23 i23 rfl) (all1 rfl) rfl rfl ?_)
        refine TL'.step (.on rfl rfl rfl c_65) (OpT.structEql (ks := [.i64, .i64]) (us := ([v_60.1.Line, v_60.1.Col] : List Int)) (ys := ([(2 : Int), (2 : Int)] : List Int)) rfl (dlt rfl (by decide)) Try.underlying23 Try.stoodInHeld23 (by kernel_rfl) Try.eqGuardType23 rfl rfl rfl rfl rfl rfl rfl ?_)
        refine TL'.step (.free rfl) (OpT.pickT rfl (dlt rfl (by decide)) rfl c_65 rfl ?_)
        refine TL'.step (.free rfl) (OpT.assign rfl (dlt rfl (by decide)) rfl ?_)
        refine TL'.nil (thenS_normal ?_)
        refine T.ret ?_
        exact Fin.done (.cons _ _ _ _ (.tmp 0 _ rfl) .nil) (by cases h; exact ⟨rfl, rfl⟩)
      · refine TL'.passU (.off _ _ _ _ rfl rfl rfl c_65) (dlt rfl (by decide)) ?_
        refine TL'.passU (.off _ _ _ _ rfl rfl rfl c_65) (dlt rfl (by decide)) ?_
        refine TL'.passU (.off _ _ _ _ rfl rfl rfl c_65) (dlt rfl (by decide)) ?_
        refine TL'.step (.free rfl) (OpT.pickF rfl (dlt rfl (by decide)) rfl c_65 rfl ?_)
        refine TL'.step (.free rfl) (OpT.assign rfl (dlt rfl (by decide)) rfl ?_)
        refine TL'.nil (thenS_normal ?_)
        refine T.ret ?_
        exact Fin.done (.cons _ _ _ _ (.tmp 0 _ rfl) .nil) (by cases h; exact ⟨rfl, rfl⟩)
    · refine TL'.passU (.off _ _ _ _ rfl rfl rfl c_64) (dlt rfl (by decide)) ?_
      refine TL'.passU (.off _ _ _ _ rfl rfl rfl c_64) (dlt rfl (by decide)) ?_
      refine TL'.passU (.off _ _ _ _ rfl rfl rfl c_64) (dlt rfl (by decide)) ?_
      refine TL'.step (.free rfl) (OpT.pickF rfl (dlt rfl (by decide)) rfl c_64 rfl ?_)
      refine TL'.step (.free rfl) (OpT.move rfl (dlt rfl (by decide)) rfl ?_)
      refine TL'.passU (.off _ _ _ _ rfl rfl rfl rfl) (dlt rfl (by decide)) ?_
      refine TL'.passU (.off _ _ _ _ rfl rfl rfl rfl) (dlt rfl (by decide)) ?_
      refine TL'.passU (.off _ _ _ _ rfl rfl rfl rfl) (dlt rfl (by decide)) ?_
      refine TL'.step (.free rfl) (OpT.pickF rfl (dlt rfl (by decide)) rfl rfl rfl ?_)
      refine TL'.step (.free rfl) (OpT.assign rfl (dlt rfl (by decide)) rfl ?_)
      refine TL'.nil (thenS_normal ?_)
      refine T.ret ?_
      exact Fin.done (.cons _ _ _ _ (.tmp 0 _ rfl) .nil) (by cases h; exact ⟨rfl, rfl⟩)
  · refine TL'.passU (.off _ _ _ _ rfl rfl rfl c_63) (dlt rfl (by decide)) ?_
    refine TL'.step (.free rfl) (OpT.pickF rfl (dlt rfl (by decide)) rfl c_63 rfl ?_)
    refine TL'.step (.free rfl) (OpT.move rfl (dlt rfl (by decide)) rfl ?_)
    refine TL'.passU (.off _ _ _ _ rfl rfl rfl rfl) (dlt rfl (by decide)) ?_
    refine TL'.passU (.off _ _ _ _ rfl rfl rfl rfl) (dlt rfl (by decide)) ?_
    refine TL'.passU (.off _ _ _ _ rfl rfl rfl rfl) (dlt rfl (by decide)) ?_
    refine TL'.step (.free rfl) (OpT.pickF rfl (dlt rfl (by decide)) rfl rfl rfl ?_)
    refine TL'.step (.free rfl) (OpT.move rfl (dlt rfl (by decide)) rfl ?_)
    refine TL'.passU (.off _ _ _ _ rfl rfl rfl rfl) (dlt rfl (by decide)) ?_
    refine TL'.passU (.off _ _ _ _ rfl rfl rfl rfl) (dlt rfl (by decide)) ?_
    refine TL'.passU (.off _ _ _ _ rfl rfl rfl rfl) (dlt rfl (by decide)) ?_
    refine TL'.step (.free rfl) (OpT.pickF rfl (dlt rfl (by decide)) rfl rfl rfl ?_)
    refine TL'.step (.free rfl) (OpT.assign rfl (dlt rfl (by decide)) rfl ?_)
    refine TL'.nil (thenS_normal ?_)
    refine T.ret ?_
    exact Fin.done (.cons _ _ _ _ (.tmp 0 _ rfl) .nil) (by cases h; exact ⟨rfl, rfl⟩)

abbrev raddlelaw19_few_q (r : List Int) : Exit → St → Prop := retS Try.prog Try.f8 (fun y t => y = (.c (.sl false 1 (r.map (cI .u8)))) ∧ t = [])

theorem raddlelaw19_few_T {K : Nat} {x0 : List Int} {fl0 : Bool} {r : List Int} (h : raddlelaw19_few K x0 = some r) : CallR Try.prog 8 [.c (.sl fl0 1 (x0.map (cI .u8)))] [] (.c (.sl false 1 (r.map (cI .u8)))) := by
  refine CallT.intro Try.func8 rfl (Nat.le_of_ble_eq_true rfl) ?_
  show T Try.prog 8 (Code.at [] (codeOf Try.f8)) ⟨paramSlots 0 [.c (.sl fl0 1 (x0.map (cI .u8)))], []⟩ (raddlelaw19_few_q r)
  unfold raddlelaw19_few at h
  refine T.seq ?_
  refine T.regionL ?_
  refine TL'.step (.free rfl) (OpT.assign rfl (dlt rfl (by decide)) rfl ?_)
  refine TL'.nil (thenS_normal ?_)
  refine T.seq ?_
  refine T.regionL ?_
  refine TL'.step (.free rfl) (OpT.move rfl (dlt rfl (by decide)) rfl ?_)
  refine TL'.step (.free rfl) (OpT.move rfl (dlt rfl (by decide)) rfl ?_)
  refine TL'.step (.free rfl) (OpT.lenSlM (xs := x0) (f := (cI .u8)) rfl (dlt rfl (by decide)) Try.underlying24 rfl ?_)
  refine TL'.step (.free rfl) (OpT.min2 rfl (dlt rfl (by decide)) rfl rfl ?_)
  obtain ⟨g_4, h⟩ := ck_some h
  refine TL'.step (.free rfl) (OpT.sliceM (xs := x0) (f := (cI .u8)) (l := 0) (h := (Int.toNat (if (200 : Int) < (x0.length : Int) then (200 : Int) else (x0.length : Int)))) rfl (dlt rfl (by decide)) Try.underlying24 i5 rfl (.none _) (.some _ _ _ _ rfl g_4.1) g_4.2.1 g_4.2.2 ?_)
  refine TL'.step (.free rfl) (OpT.assign rfl (dlt rfl (by decide)) rfl ?_)
  refine TL'.nil (thenS_normal ?_)
  refine T.ret ?_
  exact Fin.done (.cons _ _ _ _ (.tmp 2 _ rfl) .nil) (by cases h; exact ⟨rfl, rfl⟩)

abbrev raddleref19_Next_q (r : api_Place) : Exit → St → Prop := retS Try.prog Try.f15 (fun y t => y = (.agg [.ex (.int .i64 r.Line), .ex (.int .i64 r.Col)]) ∧ t = [])

abbrev raddleref19_Next_qs11 (r : api_Place) : Exit → St → Prop := thenS (fun s' => T Try.prog 28 (Code.at [1, 1] (codeOf Try.f15)) s' ((raddleref19_Next_q r))) ((raddleref19_Next_q r))

abbrev raddleref19_Next_qb0x11 (r : api_Place) : Exit → St → Prop := inBlockS 0 ((raddleref19_Next_qs11 r))

theorem raddleref19_Next_l0_T {r : api_Place} (K : Nat) : ∀ (k : Nat), ∀ (x1 : List Int) (x5_0_5 : Int) (y2_0_1 : Int) (y2_0_2 : Int) (fl1 : Bool) (b2_0 : Nat) (b4_0 : Nat), raddleref19_Next_l0 K k x1 x5_0_5 y2_0_1 y2_0_2 = some r → TL Try.prog 28 (Code.at [1, 0, 1, 0, 0] (codeOf Try.f15)) ⟨[(1, .c (.sl fl1 1 (x1.map (cI .u8)))), (2, .c (.ex (.pointer (some ⟨b2_0, 0, none⟩)))), (4, .c (.ex (.pointer (some ⟨b4_0, 0, none⟩)))), (5, .c (.ex (.int .i64 x5_0_5)))], [.box b2_0 23 [.d (.ex (.int .i64 y2_0_1)), .d (.ex (.int .i64 y2_0_2))], .box b4_0 23 [.d (.ex (.int .i64 (0 : Int))), .d (.ex (.int .i64 (0 : Int)))]]⟩ (raddleref19_Next_qb0x11 r) := by
  intro k
  induction k with
  | zero =>
    intro x1 x5_0_5 y2_0_1 y2_0_2 fl1 b2_0 b4_0 h
    cases (show (none : Option api_Place) = some r from h)
  | succ k ih =>
    intro x1 x5_0_5 y2_0_1 y2_0_2 fl1 b2_0 b4_0 h
    rw [raddleref19_Next_l0] at h
    refine TL.round ?_
    refine T.seq ?_
    refine T.seq ?_
    refine T.regionL ?_
    refine TL'.step (.free rfl) (OpT.move rfl (dlt rfl (by decide)) rfl ?_)
    refine TL'.step (.free rfl) (OpT.move rfl (dlt rfl (by decide)) rfl ?_)
    refine TL'.step (.free rfl) (OpT.lenSlM (xs := x1) (f := (cI .u8)) rfl (dlt rfl (by decide)) Try.underlying24 rfl ?_)
    refine TL'.step (.free rfl) (OpT.int2 rfl rfl (dlt rfl (by decide)) rfl rfl ?_)
    refine TL'.nil (thenS_normal ?_)
    rcases bif_some h with ⟨c_57, h⟩ | ⟨c_57, h⟩
    · refine T.condT rfl c_57 ?_
      refine T.skip (thenS_normal ?_)
      refine T.seq ?_
      refine T.block ?_
      refine T.seq ?_
      refine T.regionL ?_
      refine TL'.step (.free rfl) (OpT.move rfl (dlt rfl (by decide)) rfl ?_)
      refine TL'.step (.free rfl) (OpT.move rfl (dlt rfl (by decide)) rfl ?_)
      obtain ⟨v_58, e_59, h⟩ := bind_some h
      refine TL'.step (.free rfl) (OpT.indexSlM (xs := x1) (f := (cI .u8)) (v := v_58) rfl (dlt rfl (by decide)) Try.underlying24 i5 rfl rfl e_59 ?_)
      refine TL'.step (.free rfl) (OpT.loadRef rfl (dlt rfl (by decide)) Try.underlying5 rfl rfl rfl ?_)
      refine TL'.step (.free rfl) (OpT.int2 rfl rfl (dlt rfl (by decide)) rfl rfl ?_)
      refine TL'.nil (thenS_normal ?_)
      rcases bif_some h with ⟨c_60, h⟩ | ⟨c_60, h⟩
      · refine T.condT rfl c_60 ?_
        refine T.regionL ?_
        refine TL'.step (.free rfl) (OpT.fieldPtr rfl (dlt rfl (by decide)) Try.underlying23 rfl i3 (by decide) rfl ?_)
        refine TL'.step (.free rfl) (OpT.loadBox (i := 0) rfl (dlt rfl (by decide)) Try.underlying3 rfl rfl rfl rfl ?_)
        refine TL'.step (.free rfl) (OpT.int2 rfl rfl (dlt rfl (by decide)) rfl rfl ?_)
        refine TL'.step (.free rfl) (OpT.build (l := [.ex (.int .i64 (IntKind.i64.wrap (y2_0_1 + (1 : Int)))), .ex (.int .i64 (1 : Int))]) rfl (dlt rfl (by decide)) (built_struct (pl := [(0, 1), (1, 1)]) Try.underlying23 i23 rfl) (all1 rfl) rfl rfl ?_)
        refine TL'.step (.free rfl) (OpT.storeAggTo (i := 0) (cells' := [.d (.ex (.int .i64 (IntKind.i64.wrap (y2_0_1 + (1 : Int))))), .d (.ex (.int .i64 (1 : Int)))]) rfl rfl i23 rfl rfl rfl rfl (Nat.le_of_ble_eq_true rfl) rfl ?_)
        refine TL'.nil (inBlock_normal (thenS_normal ?_))
        refine T.regionL ?_
        refine TL'.step (.free rfl) (OpT.move rfl (dlt rfl (by decide)) rfl ?_)
        refine TL'.step (.free rfl) (OpT.int2 rfl rfl (dlt rfl (by decide)) rfl rfl ?_)
        refine TL'.step (.free rfl) (OpT.assign rfl (dlt rfl (by decide)) rfl ?_)
        refine TL'.nil (thenS_normal ?_)
        refine TL.by_turn ?_ (ih x1 (IntKind.i64.wrap (x5_0_5 + (1 : Int))) (IntKind.i64.wrap (y2_0_1 + (1 : Int))) (1 : Int) fl1 b2_0 b4_0 h)
        exact Turn.re (.cons rfl (.cons rfl (.cons rfl (.cons rfl (.nil _))))) (.cons 0 rfl (.cons 0 rfl (.nil _)))
      · refine T.condF rfl c_60 ?_
        refine T.regionL ?_
        refine TL'.step (.free rfl) (OpT.fieldPtr rfl (dlt rfl (by decide)) Try.underlying23 rfl i3 (by decide) rfl ?_)
        refine TL'.step (.free rfl) (OpT.loadBox (i := 0) rfl (dlt rfl (by decide)) Try.underlying3 rfl rfl rfl rfl ?_)
        refine TL'.step (.free rfl) (OpT.fieldPtr rfl (dlt rfl (by decide)) Try.underlying23 rfl i3 (by decide) rfl ?_)
        refine TL'.step (.free rfl) (OpT.loadBox (i := 0) rfl (dlt rfl (by decide)) Try.underlying3 rfl rfl rfl rfl ?_)
        refine TL'.step (.free rfl) (OpT.int2 rfl rfl (dlt rfl (by decide)) rfl rfl ?_)
        refine TL'.step (.free rfl) (OpT.build (l := [.ex (.int .i64 y2_0_1), .ex (.int .i64 (IntKind.i64.wrap (y2_0_2 + (1 : Int))))]) rfl (dlt rfl (by decide)) (built_struct (pl := [(0, 1), (1, 1)]) Try.underlying23 i23 rfl) (all1 rfl) rfl rfl ?_)
        refine TL'.step (.free rfl) (OpT.storeAggTo (i := 0) (cells' := [.d (.ex (.int .i64 y2_0_1)), .d (.ex (.int .i64 (IntKind.i64.wrap (y2_0_2 + (1 : Int)))))]) rfl rfl i23 rfl rfl rfl rfl (Nat.le_of_ble_eq_true rfl) rfl ?_)
        refine TL'.nil (inBlock_normal (thenS_normal ?_))
        refine T.regionL ?_
        refine TL'.step (.free rfl) (OpT.move rfl (dlt rfl (by decide)) rfl ?_)
        refine TL'.step (.free rfl) (OpT.int2 rfl rfl (dlt rfl (by decide)) rfl rfl ?_)
        refine TL'.step (.free rfl) (OpT.assign rfl (dlt rfl (by decide)) rfl ?_)
        refine TL'.nil (thenS_normal ?_)
        refine TL.by_turn ?_ (ih x1 (IntKind.i64.wrap (x5_0_5 + (1 : Int))) y2_0_1 (IntKind.i64.wrap (y2_0_2 + (1 : Int))) fl1 b2_0 b4_0 h)
        exact Turn.re (.cons rfl (.cons rfl (.cons rfl (.cons rfl (.nil _))))) (.cons 0 rfl (.cons 0 rfl (.nil _)))
    · refine T.condF rfl c_57 ?_
      refine T.exit (thenS_exit (thenS_exit (inBlock_exit (thenS_normal ?_))))
      refine T.seq ?_
      refine T.regionL ?_
      refine TL'.step (.free rfl) (OpT.loadBoxAgg (i := 0) (l := [.ex (.int .i64 y2_0_1), .ex (.int .i64 y2_0_2)]) rfl (dlt rfl (by decide)) Try.underlying23 rfl i23 rfl rfl rfl rfl ?_)
      refine TL'.step (.free rfl) (OpT.storeAggTo (i := 1) (cells' := [.d (.ex (.int .i64 y2_0_1)), .d (.ex (.int .i64 y2_0_2))]) rfl rfl i23 rfl rfl rfl rfl (Nat.le_of_ble_eq_true rfl) rfl ?_)
      refine TL'.nil (thenS_normal ?_)
      refine T.ret ?_
      exact Fin.done (.cons _ _ _ _ (.cellAgg 4 23 _ 0 1 23 _ [.ex (.int .i64 y2_0_1), .ex (.int .i64 y2_0_2)] _ _ 2 _ rfl rfl rfl rfl Try.underlying23 rfl i23) .nil) (by cases h; exact ⟨rfl, rfl⟩)

theorem raddleref19_Next_T {K : Nat} {x0 : api_Place} {x1 : List Int} {fl1 : Bool} {r : api_Place} (h : raddleref19_Next K x0 x1 = some r) : CallR Try.prog 15 [.agg [.ex (.int .i64 x0.Line), .ex (.int .i64 x0.Col)], .c (.sl fl1 1 (x1.map (cI .u8)))] [] (.agg [.ex (.int .i64 r.Line), .ex (.int .i64 r.Col)]) := by
  refine CallT.intro Try.func15 rfl (Nat.le_of_ble_eq_true rfl) ?_
  show T Try.prog 28 (Code.at [] (codeOf Try.f15)) ⟨paramSlots 0 [.agg [.ex (.int .i64 x0.Line), .ex (.int .i64 x0.Col)], .c (.sl fl1 1 (x1.map (cI .u8)))], []⟩ (raddleref19_Next_q r)
  unfold raddleref19_Next at h
  refine T.seq ?_
  refine T.regionL ?_
  refine TL'.step (.free rfl) (OpT.boxAgg rfl (dlt rfl (by decide)) rfl (fun b_55 => ?_))
  refine TL'.step (.free rfl) (OpT.alloc' rfl (dlt rfl (by decide)) i23 rfl (fun b_56 => ?_))
  refine TL'.nil (thenS_normal ?_)
  refine T.seq ?_
  refine T.seq ?_
  refine T.regionL ?_
  refine TL'.step (.free rfl) (OpT.assign rfl (dlt rfl (by decide)) rfl ?_)
  refine TL'.nil (thenS_normal ?_)
  refine T.block ?_
  refine T.loop ?_
  refine TL.by_turn ?_ (raddleref19_Next_l0_T K K x1 (0 : Int) x0.Line x0.Col fl1 b_55 b_56 h)
  exact Turn.re (.cons rfl (.cons rfl (.cons rfl (.cons rfl (.nil _))))) (.cons 1 rfl (.cons 0 rfl (.nil _)))

abbrev raddleref19_Of_q (r : api_Place × Bool) : Exit → St → Prop := retS Try.prog Try.f12 (fun y t => y = (.tup [.agg [.ex (.int .i64 r.1.Line), .ex (.int .i64 r.1.Col)], .c (.ex (.bool r.2))]) ∧ t = [])

abbrev raddleref19_Of_qs11 (r : api_Place × Bool) : Exit → St → Prop := thenS (fun s' => T Try.prog 20 (Code.at [1, 1] (codeOf Try.f12)) s' ((raddleref19_Of_q r))) ((raddleref19_Of_q r))

theorem raddleref19_Of_j0_T {r : api_Place × Bool} (K : Nat) (b4_0 : Nat) (h : raddleref19_Of_j0 K = some r) : T Try.prog 20 (Code.at [1, 0, 1, 0] (codeOf Try.f12)) ⟨[(4, .c (.ex (.pointer (some ⟨b4_0, 0, none⟩))))], [.box b4_0 23 [.d (.ex (.int .i64 (0 : Int))), .d (.ex (.int .i64 (0 : Int)))]]⟩ (raddleref19_Of_qs11 r) := by
  unfold raddleref19_Of_j0 at h
  refine T.seq ?_
  refine T.regionL ?_
  refine TL'.step (.free rfl) (OpT.build (l := [.ex (.int .i64 (0 : Int)), .ex (.int .i64 (0 : Int))]) rfl (dlt rfl (by decide)) (built_struct (pl := [(0, 1), (1, 1)]) Try.underlying23 i23 rfl) (all1 rfl) rfl rfl ?_)
  refine TL'.step (.free rfl) (OpT.storeAggTo (i := 0) (cells' := [.d (.ex (.int .i64 (0 : Int))), .d (.ex (.int .i64 (0 : Int)))]) rfl rfl i23 rfl rfl rfl rfl (Nat.le_of_ble_eq_true rfl) rfl ?_)
  refine TL'.step (.free rfl) (OpT.assign rfl (dlt rfl (by decide)) rfl ?_)
  refine TL'.nil (thenS_normal ?_)
  refine T.ret (thenS_ret ?_)
  exact Fin.done (.cons _ _ _ _ (.cellAgg 4 23 _ 0 0 23 _ [.ex (.int .i64 (0 : Int)), .ex (.int .i64 (0 : Int))] _ _ 2 _ rfl rfl rfl rfl Try.underlying23 rfl i23) (.cons _ _ _ _ (.tmp 5 _ rfl) .nil)) (by cases h; exact ⟨rfl, rfl⟩)

theorem raddleref19_Of_T {K : Nat} {x0 : List Int} {x1 : Int} {fl0 : Bool} {r : api_Place × Bool} (h : raddleref19_Of K x0 x1 = some r) : CallR Try.prog 12 [.c (.sl fl0 1 (x0.map (cI .u8))), .c (.ex (.int .i64 x1))] [] (.tup [.agg [.ex (.int .i64 r.1.Line), .ex (.int .i64 r.1.Col)], .c (.ex (.bool r.2))]) := by
  refine CallT.intro Try.func12 rfl (Nat.le_of_ble_eq_true rfl) ?_
  show T Try.prog 20 (Code.at [] (codeOf Try.f12)) ⟨paramSlots 0 [.c (.sl fl0 1 (x0.map (cI .u8))), .c (.ex (.int .i64 x1))], []⟩ (raddleref19_Of_q r)
  unfold raddleref19_Of at h
  refine T.seq ?_
  refine T.regionL ?_
  refine TL'.step (.free rfl) (OpT.alloc' rfl (dlt rfl (by decide)) i23 rfl (fun b_31 => ?_))
  refine TL'.step (.free rfl) (OpT.assign rfl (dlt rfl (by decide)) rfl ?_)
  refine TL'.nil (thenS_normal ?_)
  refine T.seq ?_
  refine T.seq ?_
  refine T.regionL ?_
  refine TL'.step (.free rfl) (OpT.move rfl (dlt rfl (by decide)) rfl ?_)
  refine TL'.step (.free rfl) (OpT.int2 rfl rfl (dlt rfl (by decide)) rfl rfl ?_)
  refine TL'.step (.free rfl) (OpT.move rfl (dlt rfl (by decide)) rfl ?_)
  rcases bif_some h with ⟨c_32, h⟩ | ⟨c_32, h⟩
  · refine TL'.passU (.off _ _ _ _ rfl rfl rfl c_32) (dlt rfl (by decide)) ?_
    refine TL'.passU (.off _ _ _ _ rfl rfl rfl c_32) (dlt rfl (by decide)) ?_
    refine TL'.passU (.off _ _ _ _ rfl rfl rfl c_32) (dlt rfl (by decide)) ?_
    refine TL'.passU (.off _ _ _ _ rfl rfl rfl c_32) (dlt rfl (by decide)) ?_
    refine TL'.step (.free rfl) (OpT.pickT rfl (dlt rfl (by decide)) rfl c_32 rfl ?_)
    refine TL'.nil (thenS_normal ?_)
    refine T.condT rfl rfl ?_
    refine T.by_turn ?_ (raddleref19_Of_j0_T K b_31 h)
    exact Turn.re (.cons rfl (.nil _)) (.cons 0 rfl (.nil _))
  · refine TL'.step (.on rfl rfl rfl c_32) (OpT.move rfl (dlt rfl (by decide)) rfl ?_)
    refine TL'.step (.on rfl rfl rfl c_32) (OpT.move rfl (dlt rfl (by decide)) rfl ?_)
    refine TL'.step (.on rfl rfl rfl c_32) (OpT.lenSlM (xs := x0) (f := (cI .u8)) rfl (dlt rfl (by decide)) Try.underlying24 rfl ?_)
    refine TL'.step (.on rfl rfl rfl c_32) (OpT.int2 rfl rfl (dlt rfl (by decide)) rfl rfl ?_)
    refine TL'.step (.free rfl) (OpT.pickF rfl (dlt rfl (by decide)) rfl c_32 rfl ?_)
    refine TL'.nil (thenS_normal ?_)
    rcases bif_some h with ⟨c_33, h⟩ | ⟨c_33, h⟩
    · refine T.condT rfl c_33 ?_
      refine T.by_turn ?_ (raddleref19_Of_j0_T K b_31 h)
      exact Turn.re (.cons rfl (.nil _)) (.cons 0 rfl (.nil _))
    · refine T.condF rfl c_33 ?_
      refine T.skip (thenS_normal ?_)
      refine T.seq ?_
      refine T.regionL ?_
      refine TL'.step (.free rfl) (OpT.build (l := [.ex (.int .i64 (1 : Int)), .ex (.int .i64 (1 : Int))]) rfl (dlt rfl (by decide)) (built_struct (pl := [(0, 1), (1, 1)]) Try.underlying23 i23 rfl) (all1 rfl) rfl rfl ?_)
      refine TL'.step (.free rfl) (OpT.move rfl (dlt rfl (by decide)) rfl ?_)
      refine TL'.step (.free rfl) (OpT.move rfl (dlt rfl (by decide)) rfl ?_)
      obtain ⟨g_34, h⟩ := ck_some h
      refine TL'.step (.free rfl) (OpT.sliceM (xs := x0) (f := (cI .u8)) (l := 0) (h := (Int.toNat x1)) rfl (dlt rfl (by decide)) Try.underlying24 i5 rfl (.none _) (.some _ _ _ _ rfl g_34.1) g_34.2.1 g_34.2.2 ?_)
      obtain ⟨v_35, e_36, h⟩ := bind_some h
      refine TL'.step (.free rfl) (OpT.callP rfl (dlt rfl (by decide)) Try.func15 rfl rfl rfl (CallR.nil (raddleref19_Next_T (fl1 := false) e_36)) ?_)
      refine TL'.step (.free rfl) (OpT.storeAggTo (i := 0) (cells' := [.d (.ex (.int .i64 v_35.Line)), .d (.ex (.int .i64 v_35.Col))]) rfl rfl i23 rfl rfl rfl rfl (Nat.le_of_ble_eq_true rfl) rfl ?_)
      refine TL'.step (.free rfl) (OpT.assign rfl (dlt rfl (by decide)) rfl ?_)
      refine TL'.nil (thenS_normal ?_)
      refine T.ret ?_
      exact Fin.done (.cons _ _ _ _ (.cellAgg 4 23 _ 0 0 23 _ [.ex (.int .i64 v_35.Line), .ex (.int .i64 v_35.Col)] _ _ 2 _ rfl rfl rfl rfl Try.underlying23 rfl i23) (.cons _ _ _ _ (.tmp 5 _ rfl) .nil)) (by cases h; exact ⟨rfl, rfl⟩)

abbrev bytes_IndexByte_q (r : Int) : Exit → St → Prop := retS Try.prog Try.f18 (fun y t => y = (.c (.ex (.int .i64 r))) ∧ t = [])

theorem bytes_IndexByte_T {K : Nat} {x0 : List Int} {x1 : Int} {fl0 : Bool} {r : Int} (h : bytes_IndexByte K x0 x1 = some r) : CallR Try.prog 18 [.c (.sl fl0 1 (x0.map (cI .u8))), .c (.ex (.int .u8 x1))] [] (.c (.ex (.int .i64 r))) := by
  refine CallT.intro Try.func18 rfl (Nat.le_of_ble_eq_true rfl) ?_
  show T Try.prog 8 (Code.at [] (codeOf Try.f18)) ⟨paramSlots 0 [.c (.sl fl0 1 (x0.map (cI .u8))), .c (.ex (.int .u8 x1))], []⟩ (bytes_IndexByte_q r)
  unfold bytes_IndexByte at h
  refine T.seq ?_
  refine T.regionL ?_
  refine TL'.step (.free rfl) (OpT.assign rfl (dlt rfl (by decide)) rfl ?_)
  refine TL'.nil (thenS_normal ?_)
  refine T.seq ?_
  refine T.regionL ?_
  refine TL'.step (.free rfl) (OpT.move rfl (dlt rfl (by decide)) rfl ?_)
  refine TL'.step (.free rfl) (OpT.move rfl (dlt rfl (by decide)) rfl ?_)
  refine TL'.step (.free rfl) (OpT.indexByte (xs := x0) rfl (dlt rfl (by decide)) Try.func23 rfl rfl (by kernel_rfl) (by kernel_rfl) rfl rfl ?_)
  refine TL'.step (.free rfl) (OpT.assign rfl (dlt rfl (by decide)) rfl ?_)
  refine TL'.nil (thenS_normal ?_)
  refine T.ret ?_
  exact Fin.done (.cons _ _ _ _ (.tmp 4 _ rfl) .nil) (by cases h; exact ⟨rfl, rfl⟩)

abbrev place_At_q (r : Int × Bool) : Exit → St → Prop := retS Try.prog Try.f13 (fun y t => y = (.tup [.c (.ex (.int .i64 r.1)), .c (.ex (.bool r.2))]) ∧ t = [])

abbrev place_At_qs11 (r : Int × Bool) : Exit → St → Prop := thenS (fun s' => T Try.prog 53 (Code.at [1, 1] (codeOf Try.f13)) s' ((place_At_q r))) ((place_At_q r))

abbrev place_At_qs1111 (r : Int × Bool) : Exit → St → Prop := thenS (fun s' => T Try.prog 53 (Code.at [1, 1, 1, 1] (codeOf Try.f13)) s' ((place_At_q r))) ((place_At_q r))

abbrev place_At_qb0x1111 (r : Int × Bool) : Exit → St → Prop := inBlockS 0 ((place_At_qs1111 r))

theorem place_At_j0_T {r : Int × Bool} (K : Nat) (h : place_At_j0 K = some r) : T Try.prog 53 (Code.at [1, 0, 1, 0] (codeOf Try.f13)) ⟨[], []⟩ (place_At_qs11 r) := by
  unfold place_At_j0 at h
  refine T.seq ?_
  refine T.regionL ?_
  refine TL'.step (.free rfl) (OpT.assign rfl (dlt rfl (by decide)) rfl ?_)
  refine TL'.step (.free rfl) (OpT.assign rfl (dlt rfl (by decide)) rfl ?_)
  refine TL'.nil (thenS_normal ?_)
  refine T.ret (thenS_ret ?_)
  exact Fin.done (.cons _ _ _ _ (.tmp 4 _ rfl) (.cons _ _ _ _ (.tmp 5 _ rfl) .nil)) (by cases h; exact ⟨rfl, rfl⟩)

theorem place_At_j2_T {r : Int × Bool} (K : Nat) (x6_2_2 : Int) (x8_2_3 : Int) (y3_1_1 : Int) (y3_1_2 : Int) (b3_2 : Nat) (h : place_At_j2 K x6_2_2 x8_2_3 y3_1_1 y3_1_2 = some r) : T Try.prog 53 (Code.at [1, 1, 1, 1, 1, 1] (codeOf Try.f13)) ⟨[(3, .c (.ex (.pointer (some ⟨b3_2, 0, none⟩)))), (6, .c (.ex (.int .i64 x6_2_2))), (8, .c (.ex (.int .i64 x8_2_3)))], [.box b3_2 23 [.d (.ex (.int .i64 y3_1_1)), .d (.ex (.int .i64 y3_1_2))]]⟩ (place_At_q r) := by
  unfold place_At_j2 at h
  refine T.seq ?_
  refine T.seq ?_
  refine T.regionL ?_
  refine TL'.step (.free rfl) (OpT.fieldPtr rfl (dlt rfl (by decide)) Try.underlying23 rfl i3 (by decide) rfl ?_)
  refine TL'.step (.free rfl) (OpT.loadBox (i := 0) rfl (dlt rfl (by decide)) Try.underlying3 rfl rfl rfl rfl ?_)
  refine TL'.step (.free rfl) (OpT.int2 rfl rfl (dlt rfl (by decide)) rfl rfl ?_)
  refine TL'.step (.free rfl) (OpT.move rfl (dlt rfl (by decide)) rfl ?_)
  refine TL'.step (.free rfl) (OpT.int2 rfl rfl (dlt rfl (by decide)) rfl rfl ?_)
  refine TL'.nil (thenS_normal ?_)
  rcases bif_some h with ⟨c_169, h⟩ | ⟨c_169, h⟩
  · refine T.condT rfl c_169 ?_
    refine T.seq ?_
    refine T.regionL ?_
    refine TL'.step (.free rfl) (OpT.assign rfl (dlt rfl (by decide)) rfl ?_)
    refine TL'.step (.free rfl) (OpT.assign rfl (dlt rfl (by decide)) rfl ?_)
    refine TL'.nil (thenS_normal ?_)
    refine T.ret (thenS_ret ?_)
    exact Fin.done (.cons _ _ _ _ (.tmp 4 _ rfl) (.cons _ _ _ _ (.tmp 5 _ rfl) .nil)) (by cases h; exact ⟨rfl, rfl⟩)
  · refine T.condF rfl c_169 ?_
    refine T.skip (thenS_normal ?_)
    refine T.seq ?_
    refine T.regionL ?_
    refine TL'.step (.free rfl) (OpT.move rfl (dlt rfl (by decide)) rfl ?_)
    refine TL'.step (.free rfl) (OpT.fieldPtr rfl (dlt rfl (by decide)) Try.underlying23 rfl i3 (by decide) rfl ?_)
    refine TL'.step (.free rfl) (OpT.loadBox (i := 0) rfl (dlt rfl (by decide)) Try.underlying3 rfl rfl rfl rfl ?_)
    refine TL'.step (.free rfl) (OpT.int2 rfl rfl (dlt rfl (by decide)) rfl rfl ?_)
    refine TL'.step (.free rfl) (OpT.int2 rfl rfl (dlt rfl (by decide)) rfl rfl ?_)
    refine TL'.step (.free rfl) (OpT.assign rfl (dlt rfl (by decide)) rfl ?_)
    refine TL'.step (.free rfl) (OpT.assign rfl (dlt rfl (by decide)) rfl ?_)
    refine TL'.nil (thenS_normal ?_)
    refine T.ret ?_
    exact Fin.done (.cons _ _ _ _ (.tmp 4 _ rfl) (.cons _ _ _ _ (.tmp 5 _ rfl) .nil)) (by cases h; exact ⟨rfl, rfl⟩)

theorem place_At_l1_T {r : Int × Bool} (K : Nat) : ∀ (k : Nat), ∀ (x0 : List Int) (x6_1_3 : Int) (x19_1_4 : Int) (x20_1_5 : Int) (y3_1_1 : Int) (y3_1_2 : Int) (fl0 : Bool) (b3_1 : Nat), place_At_l1 K k x0 x6_1_3 x19_1_4 x20_1_5 y3_1_1 y3_1_2 = some r → TL Try.prog 53 (Code.at [1, 1, 1, 0, 1, 0, 0] (codeOf Try.f13)) ⟨[(0, .c (.sl fl0 1 (x0.map (cI .u8)))), (3, .c (.ex (.pointer (some ⟨b3_1, 0, none⟩)))), (6, .c (.ex (.int .i64 x6_1_3))), (19, .c (.ex (.int .i64 x19_1_4))), (20, .c (.ex (.int .i64 x20_1_5)))], [.box b3_1 23 [.d (.ex (.int .i64 y3_1_1)), .d (.ex (.int .i64 y3_1_2))]]⟩ (place_At_qb0x1111 r) := by
  intro k
  induction k with
  | zero =>
    intro x0 x6_1_3 x19_1_4 x20_1_5 y3_1_1 y3_1_2 fl0 b3_1 h
    cases (show (none : Option (Int × Bool)) = some r from h)
  | succ k ih =>
    intro x0 x6_1_3 x19_1_4 x20_1_5 y3_1_1 y3_1_2 fl0 b3_1 h
    rw [place_At_l1] at h
    refine TL.round ?_
    refine T.seq ?_
    refine T.regionL ?_
    refine TL'.step (.free rfl) (OpT.int2 rfl rfl (dlt rfl (by decide)) rfl rfl ?_)
    refine TL'.nil (thenS_normal ?_)
    refine T.seq ?_
    rcases bif_some h with ⟨c_160, h⟩ | ⟨c_160, h⟩
    · refine T.condT rfl c_160 ?_
      refine T.skip (thenS_normal ?_)
      refine T.seq ?_
      refine T.block ?_
      refine T.seq ?_
      refine T.regionL ?_
      refine TL'.step (.free rfl) (OpT.move rfl (dlt rfl (by decide)) rfl ?_)
      refine TL'.step (.free rfl) (OpT.move rfl (dlt rfl (by decide)) rfl ?_)
      obtain ⟨g_161, h⟩ := ck_some h
      refine TL'.step (.free rfl) (OpT.sliceM (xs := x0) (f := (cI .u8)) (l := (Int.toNat x6_1_3)) (h := x0.length) rfl (dlt rfl (by decide)) Try.underlying24 i5 rfl (.some _ _ _ _ rfl g_161.1) (.none _) g_161.2.1 g_161.2.2 ?_)
      obtain ⟨v_162, e_163, h⟩ := bind_some h
      refine TL'.step (.free rfl) (OpT.callP rfl (dlt rfl (by decide)) Try.func18 rfl rfl rfl (CallR.nil (bytes_IndexByte_T (fl0 := false) e_163)) ?_)
      refine TL'.step (.free rfl) (OpT.assign rfl (dlt rfl (by decide)) rfl ?_)
      refine TL'.nil (thenS_normal ?_)
      refine T.seq ?_
      refine T.seq ?_
      refine T.regionL ?_
      refine TL'.step (.free rfl) (OpT.move rfl (dlt rfl (by decide)) rfl ?_)
      refine TL'.step (.free rfl) (OpT.int2 rfl rfl (dlt rfl (by decide)) rfl rfl ?_)
      refine TL'.nil (thenS_normal ?_)
      rcases bif_some h with ⟨c_164, h⟩ | ⟨c_164, h⟩
      · refine T.condT rfl c_164 ?_
        refine T.seq ?_
        refine T.regionL ?_
        refine TL'.step (.free rfl) (OpT.assign rfl (dlt rfl (by decide)) rfl ?_)
        refine TL'.step (.free rfl) (OpT.assign rfl (dlt rfl (by decide)) rfl ?_)
        refine TL'.nil (thenS_normal ?_)
        refine T.ret (thenS_ret (inBlock_ret (thenS_ret (thenS_ret (inBlock_ret (thenS_ret ?_))))))
        exact Fin.done (.cons _ _ _ _ (.tmp 4 _ rfl) (.cons _ _ _ _ (.tmp 5 _ rfl) .nil)) (by cases h; exact ⟨rfl, rfl⟩)
      · refine T.condF rfl c_164 ?_
        refine T.skip (thenS_normal ?_)
        refine T.regionL ?_
        refine TL'.step (.free rfl) (OpT.move rfl (dlt rfl (by decide)) rfl ?_)
        refine TL'.step (.free rfl) (OpT.move rfl (dlt rfl (by decide)) rfl ?_)
        refine TL'.step (.free rfl) (OpT.int2 rfl rfl (dlt rfl (by decide)) rfl rfl ?_)
        refine TL'.step (.free rfl) (OpT.int2 rfl rfl (dlt rfl (by decide)) rfl rfl ?_)
        refine TL'.step (.free rfl) (OpT.assign rfl (dlt rfl (by decide)) rfl ?_)
        refine TL'.nil (inBlock_normal (thenS_normal ?_))
        refine T.regionL ?_
        refine TL'.step (.free rfl) (OpT.int2 rfl rfl (dlt rfl (by decide)) rfl rfl ?_)
        refine TL'.step (.free rfl) (OpT.move rfl (dlt rfl (by decide)) rfl ?_)
        refine TL'.nil (thenS_normal ?_)
        refine TL.by_turn ?_ (ih x0 (IntKind.i64.wrap (x6_1_3 + (IntKind.i64.wrap (v_162 + (1 : Int))))) x19_1_4 (IntKind.i64.wrap (x20_1_5 + (1 : Int))) y3_1_1 y3_1_2 fl0 b3_1 h)
        exact Turn.re (.cons rfl (.cons rfl (.cons rfl (.cons rfl (.cons rfl (.nil _)))))) (.cons 0 rfl (.nil _))
    · refine T.condF rfl c_160 ?_
      refine T.exit (thenS_exit (thenS_exit (inBlock_exit (thenS_normal ?_))))
      refine T.seq ?_
      refine T.regionL ?_
      refine TL'.step (.free rfl) (OpT.move rfl (dlt rfl (by decide)) rfl ?_)
      refine TL'.step (.free rfl) (OpT.move rfl (dlt rfl (by decide)) rfl ?_)
      obtain ⟨g_165, h⟩ := ck_some h
      refine TL'.step (.free rfl) (OpT.sliceM (xs := x0) (f := (cI .u8)) (l := (Int.toNat x6_1_3)) (h := x0.length) rfl (dlt rfl (by decide)) Try.underlying24 i5 rfl (.some _ _ _ _ rfl g_165.1) (.none _) g_165.2.1 g_165.2.2 ?_)
      obtain ⟨v_166, e_167, h⟩ := bind_some h
      refine TL'.step (.free rfl) (OpT.callP rfl (dlt rfl (by decide)) Try.func18 rfl rfl rfl (CallR.nil (bytes_IndexByte_T (fl0 := false) e_167)) ?_)
      refine TL'.step (.free rfl) (OpT.assign rfl (dlt rfl (by decide)) rfl ?_)
      refine TL'.nil (thenS_normal ?_)
      refine T.seq ?_
      refine T.seq ?_
      refine T.regionL ?_
      refine TL'.step (.free rfl) (OpT.move rfl (dlt rfl (by decide)) rfl ?_)
      refine TL'.step (.free rfl) (OpT.int2 rfl rfl (dlt rfl (by decide)) rfl rfl ?_)
      refine TL'.nil (thenS_normal ?_)
      rcases bif_some h with ⟨c_168, h⟩ | ⟨c_168, h⟩
      · refine T.condT rfl c_168 ?_
        refine T.regionL ?_
        refine TL'.step (.free rfl) (OpT.move rfl (dlt rfl (by decide)) rfl ?_)
        refine TL'.step (.free rfl) (OpT.lenSlM (xs := x0) (f := (cI .u8)) rfl (dlt rfl (by decide)) Try.underlying24 rfl ?_)
        refine TL'.step (.free rfl) (OpT.move rfl (dlt rfl (by decide)) rfl ?_)
        refine TL'.step (.free rfl) (OpT.int2 rfl rfl (dlt rfl (by decide)) rfl rfl ?_)
        refine TL'.step (.free rfl) (OpT.assign rfl (dlt rfl (by decide)) rfl ?_)
        refine TL'.nil (thenS_normal ?_)
        refine T.by_turn ?_ (place_At_j2_T K x6_1_3 (IntKind.i64.wrap ((x0.length : Int) - x6_1_3)) y3_1_1 y3_1_2 b3_1 h)
        exact Turn.re (.cons rfl (.cons rfl (.cons rfl (.nil _)))) (.cons 0 rfl (.nil _))
      · refine T.condF rfl c_168 ?_
        refine T.skip (thenS_normal ?_)
        refine T.by_turn ?_ (place_At_j2_T K x6_1_3 v_166 y3_1_1 y3_1_2 b3_1 h)
        exact Turn.re (.cons rfl (.cons rfl (.cons rfl (.nil _)))) (.cons 0 rfl (.nil _))

theorem place_At_T {K : Nat} {x0 : List Int} {x1 : api_Place} {fl0 : Bool} {r : Int × Bool} (h : place_At K x0 x1 = some r) : CallR Try.prog 13 [.c (.sl fl0 1 (x0.map (cI .u8))), .agg [.ex (.int .i64 x1.Line), .ex (.int .i64 x1.Col)]] [] (.tup [.c (.ex (.int .i64 r.1)), .c (.ex (.bool r.2))]) := by
  refine CallT.intro Try.func13 rfl (Nat.le_of_ble_eq_true rfl) ?_
  show T Try.prog 53 (Code.at [] (codeOf Try.f13)) ⟨paramSlots 0 [.c (.sl fl0 1 (x0.map (cI .u8))), .agg [.ex (.int .i64 x1.Line), .ex (.int .i64 x1.Col)]], []⟩ (place_At_q r)
  unfold place_At at h
  refine T.seq ?_
  refine T.regionL ?_
  refine TL'.step (.free rfl) (OpT.boxAgg rfl (dlt rfl (by decide)) rfl (fun b_157 => ?_))
  refine TL'.step (.free rfl) (OpT.assign rfl (dlt rfl (by decide)) rfl ?_)
  refine TL'.step (.free rfl) (OpT.assign rfl (dlt rfl (by decide)) rfl ?_)
  refine TL'.nil (thenS_normal ?_)
  refine T.seq ?_
  refine T.seq ?_
  refine T.regionL ?_
  refine TL'.step (.free rfl) (OpT.fieldPtr rfl (dlt rfl (by decide)) Try.underlying23 rfl i3 (by decide) rfl ?_)
  refine TL'.step (.free rfl) (OpT.loadBox (i := 0) rfl (dlt rfl (by decide)) Try.underlying3 rfl rfl rfl rfl ?_)
  refine TL'.step (.free rfl) (OpT.int2 rfl rfl (dlt rfl (by decide)) rfl rfl ?_)
  refine TL'.step (.free rfl) (OpT.move rfl (dlt rfl (by decide)) rfl ?_)
  rcases bif_some h with ⟨c_158, h⟩ | ⟨c_158, h⟩
  · refine TL'.passU (.off _ _ _ _ rfl rfl rfl c_158) (dlt rfl (by decide)) ?_
    refine TL'.passU (.off _ _ _ _ rfl rfl rfl c_158) (dlt rfl (by decide)) ?_
    refine TL'.passU (.off _ _ _ _ rfl rfl rfl c_158) (dlt rfl (by decide)) ?_
    refine TL'.step (.free rfl) (OpT.pickT rfl (dlt rfl (by decide)) rfl c_158 rfl ?_)
    refine TL'.nil (thenS_normal ?_)
    refine T.condT rfl rfl ?_
    refine T.by_turn ?_ (place_At_j0_T K h)
    exact Turn.re (.nil _) (.nil _)
  · refine TL'.step (.on rfl rfl rfl c_158) (OpT.fieldPtr rfl (dlt rfl (by decide)) Try.underlying23 rfl i3 (by decide) rfl ?_)
    refine TL'.step (.on rfl rfl rfl c_158) (OpT.loadBox (i := 0) rfl (dlt rfl (by decide)) Try.underlying3 rfl rfl rfl rfl ?_)
    refine TL'.step (.on rfl rfl rfl c_158) (OpT.int2 rfl rfl (dlt rfl (by decide)) rfl rfl ?_)
    refine TL'.step (.free rfl) (OpT.pickF rfl (dlt rfl (by decide)) rfl c_158 rfl ?_)
    refine TL'.nil (thenS_normal ?_)
    rcases bif_some h with ⟨c_159, h⟩ | ⟨c_159, h⟩
    · refine T.condT rfl c_159 ?_
      refine T.by_turn ?_ (place_At_j0_T K h)
      exact Turn.re (.nil _) (.nil _)
    · refine T.condF rfl c_159 ?_
      refine T.skip (thenS_normal ?_)
      refine T.seq ?_
      refine T.regionL ?_
      refine TL'.step (.free rfl) (OpT.assign rfl (dlt rfl (by decide)) rfl ?_)
      refine TL'.nil (thenS_normal ?_)
      refine T.seq ?_
      refine T.seq ?_
      refine T.regionL ?_
      refine TL'.step (.free rfl) (OpT.fieldPtr rfl (dlt rfl (by decide)) Try.underlying23 rfl i3 (by decide) rfl ?_)
      refine TL'.step (.free rfl) (OpT.loadBox (i := 0) rfl (dlt rfl (by decide)) Try.underlying3 rfl rfl rfl rfl ?_)
      refine TL'.step (.free rfl) (OpT.int2 rfl rfl (dlt rfl (by decide)) rfl rfl ?_)
      refine TL'.step (.free rfl) (OpT.move rfl (dlt rfl (by decide)) rfl ?_)
      refine TL'.nil (thenS_normal ?_)
      refine T.block ?_
      refine T.loop ?_
      refine TL.by_turn ?_ (place_At_l1_T K K x0 (0 : Int) (IntKind.i64.wrap (x1.Line - (1 : Int))) (0 : Int) x1.Line x1.Col fl0 b_157 h)
      exact Turn.re (.cons rfl (.cons rfl (.cons rfl (.cons rfl (.cons rfl (.nil _)))))) (.cons 0 rfl (.nil _))

abbrev raddleref19_At_q (r : Int × Bool) : Exit → St → Prop := retS Try.prog Try.f14 (fun y t => y = (.tup [.c (.ex (.int .i64 r.1)), .c (.ex (.bool r.2))]) ∧ t = [])

abbrev raddleref19_At_qs11 (r : Int × Bool) : Exit → St → Prop := thenS (fun s' => T Try.prog 25 (Code.at [1, 1] (codeOf Try.f14)) s' ((raddleref19_At_q r))) ((raddleref19_At_q r))

abbrev raddleref19_At_qb0x11 (r : Int × Bool) : Exit → St → Prop := inBlockS 0 ((raddleref19_At_qs11 r))

theorem raddleref19_At_l0_T {r : Int × Bool} (K : Nat) : ∀ (k : Nat), ∀ (x0 : List Int) (x6_0_3 : Int) (y3_0_1 : Int) (y3_0_2 : Int) (fl0 : Bool) (b3_0 : Nat), raddleref19_At_l0 K k x0 x6_0_3 y3_0_1 y3_0_2 = some r → TL Try.prog 25 (Code.at [1, 0, 1, 0, 0] (codeOf Try.f14)) ⟨[(0, .c (.sl fl0 1 (x0.map (cI .u8)))), (3, .c (.ex (.pointer (some ⟨b3_0, 0, none⟩)))), (6, .c (.ex (.int .i64 x6_0_3)))], [.box b3_0 23 [.d (.ex (.int .i64 y3_0_1)), .d (.ex (.int .i64 y3_0_2))]]⟩ (raddleref19_At_qb0x11 r) := by
  intro k
  induction k with
  | zero =>
    intro x0 x6_0_3 y3_0_1 y3_0_2 fl0 b3_0 h
    cases (show (none : Option (Int × Bool)) = some r from h)
  | succ k ih =>
    intro x0 x6_0_3 y3_0_1 y3_0_2 fl0 b3_0 h
    rw [raddleref19_At_l0] at h
    refine TL.round ?_
    refine T.seq ?_
    refine T.seq ?_
    refine T.regionL ?_
    refine TL'.step (.free rfl) (OpT.move rfl (dlt rfl (by decide)) rfl ?_)
    refine TL'.step (.free rfl) (OpT.move rfl (dlt rfl (by decide)) rfl ?_)
    refine TL'.step (.free rfl) (OpT.lenSlM (xs := x0) (f := (cI .u8)) rfl (dlt rfl (by decide)) Try.underlying24 rfl ?_)
    refine TL'.step (.free rfl) (OpT.int2 rfl rfl (dlt rfl (by decide)) rfl rfl ?_)
    refine TL'.nil (thenS_normal ?_)
    rcases bif_some h with ⟨c_56, h⟩ | ⟨c_56, h⟩
    · refine T.condT rfl c_56 ?_
      refine T.skip (thenS_normal ?_)
      refine T.seq ?_
      refine T.block ?_
      refine T.seq ?_
      refine T.regionL ?_
      refine TL'.step (.free rfl) (OpT.move rfl (dlt rfl (by decide)) rfl ?_)
      refine TL'.step (.free rfl) (OpT.move rfl (dlt rfl (by decide)) rfl ?_)
      obtain ⟨v_57, e_58, h⟩ := bind_some h
      refine TL'.step (.free rfl) (OpT.callP rfl (dlt rfl (by decide)) Try.func12 rfl rfl rfl (CallR.nil (raddleref19_Of_T (fl0 := fl0) e_58)) ?_)
      refine TL'.step (.free rfl) (OpT.move rfl (dlt rfl (by decide)) rfl ?_)
      refine TL'.step (.free rfl) (OpT.extract rfl (dlt rfl (by decide)) rfl rfl ?_)
      refine TL'.step (.free rfl) (OpT.extract rfl (dlt rfl (by decide)) rfl rfl ?_)
      refine TL'.step (.free rfl) (OpT.alloc' rfl (dlt rfl (by decide)) i23 rfl (fun b_59 => ?_))
      refine TL'.step (.free rfl) (OpT.storeAggTo (i := 0) (cells' := [.d (.ex (.int .i64 v_57.1.Line)), .d (.ex (.int .i64 v_57.1.Col))]) rfl rfl i23 rfl rfl rfl rfl (Nat.le_of_ble_eq_true rfl) rfl ?_)
      refine TL'.step (.free rfl) (OpT.assign rfl (dlt rfl (by decide)) rfl ?_)
      refine TL'.nil (thenS_normal ?_)
      refine T.seq ?_
      refine T.regionL ?_
      refine TL'.step (.free rfl) (OpT.loadBoxAgg (i := 0) (l := [.ex (.int .i64 v_57.1.Line), .ex (.int .i64 v_57.1.Col)]) rfl (dlt rfl (by decide)) Try.underlying23 rfl i23 rfl rfl rfl rfl ?_)
      refine TL'.step (.free rfl) (OpT.loadBoxAgg (i := 1) (l := [.ex (.int .i64 y3_0_1), .ex (.int .i64 y3_0_2)]) rfl (dlt rfl (by decide)) Try.underlying23 rfl i23 rfl rfl rfl rfl ?_)
      refine TL'.step (.free rfl) (OpT.structEql (ks := [.i64, .i64]) (us := ([v_57.1.Line, v_57.1.Col] : List Int)) (ys := ([y3_0_1, y3_0_2] : List Int)) rfl (dlt rfl (by decide)) Try.underlying23 Try.stoodInHeld23 (by kernel_rfl) Try.eqGuardType23 rfl rfl rfl rfl rfl rfl rfl ?_)
      refine TL'.nil (thenS_normal ?_)
      rcases bif_some h with ⟨c_60, h⟩ | ⟨c_60, h⟩
      · refine T.condT rfl c_60 ?_
        refine T.seq ?_
        refine T.regionL ?_
        refine TL'.step (.free rfl) (OpT.move rfl (dlt rfl (by decide)) rfl ?_)
        refine TL'.step (.free rfl) (OpT.assign rfl (dlt rfl (by decide)) rfl ?_)
        refine TL'.step (.free rfl) (OpT.assign rfl (dlt rfl (by decide)) rfl ?_)
        refine TL'.nil (thenS_normal ?_)
        refine T.ret (inBlock_ret (thenS_ret (thenS_ret (inBlock_ret (thenS_ret ?_)))))
        exact Fin.done (.cons _ _ _ _ (.tmp 4 _ rfl) (.cons _ _ _ _ (.tmp 5 _ rfl) .nil)) (by cases h; exact ⟨rfl, rfl⟩)
      · refine T.condF rfl c_60 ?_
        refine T.skip (inBlock_normal (thenS_normal ?_))
        refine T.regionL ?_
        refine TL'.step (.free rfl) (OpT.move rfl (dlt rfl (by decide)) rfl ?_)
        refine TL'.step (.free rfl) (OpT.int2 rfl rfl (dlt rfl (by decide)) rfl rfl ?_)
        refine TL'.step (.free rfl) (OpT.assign rfl (dlt rfl (by decide)) rfl ?_)
        refine TL'.nil (thenS_normal ?_)
        refine TL.by_turn ?_ (ih x0 (IntKind.i64.wrap (x6_0_3 + (1 : Int))) y3_0_1 y3_0_2 fl0 b3_0 h)
        exact Turn.re (.cons rfl (.cons rfl (.cons rfl (.nil _)))) (.cons 1 rfl (.nil _))
    · refine T.condF rfl c_56 ?_
      refine T.exit (thenS_exit (thenS_exit (inBlock_exit (thenS_normal ?_))))
      refine T.seq ?_
      refine T.regionL ?_
      refine TL'.step (.free rfl) (OpT.assign rfl (dlt rfl (by decide)) rfl ?_)
      refine TL'.step (.free rfl) (OpT.assign rfl (dlt rfl (by decide)) rfl ?_)
      refine TL'.nil (thenS_normal ?_)
      refine T.ret ?_
      exact Fin.done (.cons _ _ _ _ (.tmp 4 _ rfl) (.cons _ _ _ _ (.tmp 5 _ rfl) .nil)) (by cases h; exact ⟨rfl, rfl⟩)

theorem raddleref19_At_T {K : Nat} {x0 : List Int} {x1 : api_Place} {fl0 : Bool} {r : Int × Bool} (h : raddleref19_At K x0 x1 = some r) : CallR Try.prog 14 [.c (.sl fl0 1 (x0.map (cI .u8))), .agg [.ex (.int .i64 x1.Line), .ex (.int .i64 x1.Col)]] [] (.tup [.c (.ex (.int .i64 r.1)), .c (.ex (.bool r.2))]) := by
  refine CallT.intro Try.func14 rfl (Nat.le_of_ble_eq_true rfl) ?_
  show T Try.prog 25 (Code.at [] (codeOf Try.f14)) ⟨paramSlots 0 [.c (.sl fl0 1 (x0.map (cI .u8))), .agg [.ex (.int .i64 x1.Line), .ex (.int .i64 x1.Col)]], []⟩ (raddleref19_At_q r)
  unfold raddleref19_At at h
  refine T.seq ?_
  refine T.regionL ?_
  refine TL'.step (.free rfl) (OpT.boxAgg rfl (dlt rfl (by decide)) rfl (fun b_55 => ?_))
  refine TL'.step (.free rfl) (OpT.assign rfl (dlt rfl (by decide)) rfl ?_)
  refine TL'.step (.free rfl) (OpT.assign rfl (dlt rfl (by decide)) rfl ?_)
  refine TL'.nil (thenS_normal ?_)
  refine T.seq ?_
  refine T.seq ?_
  refine T.regionL ?_
  refine TL'.step (.free rfl) (OpT.assign rfl (dlt rfl (by decide)) rfl ?_)
  refine TL'.nil (thenS_normal ?_)
  refine T.block ?_
  refine T.loop ?_
  refine TL.by_turn ?_ (raddleref19_At_l0_T K K x0 (0 : Int) x1.Line x1.Col fl0 b_55 h)
  exact Turn.re (.cons rfl (.cons rfl (.cons rfl (.nil _)))) (.cons 0 rfl (.nil _))

end Go.Rv

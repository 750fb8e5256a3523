/- Each function computes what its plain text says: printed by a program of ours. -/
import Derived.Test.YtnedpcjnhkmikaaRgW1
namespace Go.Rv
open Go.Proofs
set_option maxRecDepth 100000
set_option linter.unusedVariables false

abbrev raddlelaw19_PlaceOrder_q (r : Bool) : Exit → St → Prop := retS Try.prog Try.f5 (fun y t => y = (.c (.ex (.bool r))) ∧ t = [])

theorem raddlelaw19_PlaceOrder_j0_T {r : Bool} (K : Nat) (x7_0_0 : Bool) (x8_0_1 : List Int) (x9_0_2 : Int) (x10_0_3 : Int) (x12_0_6 : Bool) (x14_0_9 : Bool) (x15_0_10 : Bool) (y11_0_4 : Int) (y11_0_5 : Int) (y13_0_7 : Int) (y13_0_8 : Int) (b11_0 : Nat) (b13_0 : Nat) (h : raddlelaw19_PlaceOrder_j0 K x7_0_0 x8_0_1 x9_0_2 x10_0_3 x12_0_6 x14_0_9 x15_0_10 y11_0_4 y11_0_5 y13_0_7 y13_0_8 = some r) : T Try.prog 126 (Code.at [1, 1, 1, 1, 1, 1, 1] (codeOf Try.f5)) ⟨[(7, .c (.ex (.bool x7_0_0))), (8, .c (.sl false 1 (x8_0_1.map (cI .u8)))), (9, .c (.ex (.int .i64 x9_0_2))), (10, .c (.ex (.int .i64 x10_0_3))), (11, .c (.ex (.pointer (some ⟨b11_0, 0, none⟩)))), (12, .c (.ex (.bool x12_0_6))), (13, .c (.ex (.pointer (some ⟨b13_0, 0, none⟩)))), (14, .c (.ex (.bool x14_0_9))), (15, .c (.ex (.bool x15_0_10)))], [.box b11_0 23 [.d (.ex (.int .i64 y11_0_4)), .d (.ex (.int .i64 y11_0_5))], .box b13_0 23 [.d (.ex (.int .i64 y13_0_7)), .d (.ex (.int .i64 y13_0_8))]]⟩ (raddlelaw19_PlaceOrder_q r) := by
  unfold raddlelaw19_PlaceOrder_j0 at h
  refine T.seq ?_
  refine T.regionL ?_
  refine TL'.step (.free rfl) (OpT.move rfl (dlt rfl (by decide)) rfl ?_)
  refine TL'.step (.free rfl) (OpT.loadBoxAgg (i := 0) (l := [.ex (.int .i64 y11_0_4), .ex (.int .i64 y11_0_5)]) rfl (dlt rfl (by decide)) Try.underlying23 rfl i23 rfl rfl rfl rfl ?_)
  obtain ⟨v_164, e_165, h⟩ := bind_some h
  refine TL'.step (.free rfl) (OpT.callP rfl (dlt rfl (by decide)) Try.func13 rfl rfl rfl (CallR.nil (place_At_T (fl0 := false) e_165)) ?_)
  refine TL'.step (.free rfl) (OpT.move rfl (dlt rfl (by decide)) rfl ?_)
  refine TL'.step (.free rfl) (OpT.extract rfl (dlt rfl (by decide)) rfl rfl ?_)
  refine TL'.step (.free rfl) (OpT.extract rfl (dlt rfl (by decide)) rfl rfl ?_)
  refine TL'.step (.free rfl) (OpT.assign rfl (dlt rfl (by decide)) rfl ?_)
  refine TL'.step (.free rfl) (OpT.assign rfl (dlt rfl (by decide)) rfl ?_)
  refine TL'.nil (thenS_normal ?_)
  refine T.seq ?_
  refine T.regionL ?_
  refine TL'.step (.free rfl) (OpT.move rfl (dlt rfl (by decide)) rfl ?_)
  obtain ⟨v_166, e_167, h⟩ := bind_some h
  refine TL'.step (.free rfl) (OpT.callP rfl (dlt rfl (by decide)) Try.func11 rfl rfl rfl (CallR.nil (place_Of_T (fl0 := false) e_167)) ?_)
  refine TL'.step (.free rfl) (OpT.move rfl (dlt rfl (by decide)) rfl ?_)
  refine TL'.step (.free rfl) (OpT.extract rfl (dlt rfl (by decide)) rfl rfl ?_)
  refine TL'.step (.free rfl) (OpT.extract rfl (dlt rfl (by decide)) rfl rfl ?_)
  refine TL'.step (.free rfl) (OpT.alloc' rfl (dlt rfl (by decide)) i23 rfl (fun b_168 => ?_))
  refine TL'.step (.free rfl) (OpT.storeAggTo (i := 0) (cells' := [.d (.ex (.int .i64 v_166.1.Line)), .d (.ex (.int .i64 v_166.1.Col))]) rfl rfl i23 rfl rfl rfl rfl (Nat.le_of_ble_eq_true rfl) rfl ?_)
  refine TL'.step (.free rfl) (OpT.assign rfl (dlt rfl (by decide)) rfl ?_)
  refine TL'.nil (thenS_normal ?_)
  refine T.seq ?_
  refine T.regionL ?_
  refine TL'.step (.free rfl) (OpT.move rfl (dlt rfl (by decide)) rfl ?_)
  refine TL'.step (.free rfl) (OpT.move rfl (dlt rfl (by decide)) rfl ?_)
  refine TL'.step (.free rfl) (OpT.lenSlM (xs := x8_0_1) (f := (cI .u8)) rfl (dlt rfl (by decide)) Try.underlying24 rfl ?_)
  refine TL'.step (.free rfl) (OpT.int2 rfl rfl (dlt rfl (by decide)) rfl rfl ?_)
  obtain ⟨v_169, e_170, h⟩ := bind_some h
  refine TL'.step (.free rfl) (OpT.callP rfl (dlt rfl (by decide)) Try.func11 rfl rfl rfl (CallR.nil (place_Of_T (fl0 := false) e_170)) ?_)
  refine TL'.step (.free rfl) (OpT.move rfl (dlt rfl (by decide)) rfl ?_)
  refine TL'.step (.free rfl) (OpT.extract rfl (dlt rfl (by decide)) rfl rfl ?_)
  refine TL'.step (.free rfl) (OpT.extract rfl (dlt rfl (by decide)) rfl rfl ?_)
  refine TL'.step (.free rfl) (OpT.alloc' rfl (dlt rfl (by decide)) i23 rfl (fun b_171 => ?_))
  refine TL'.step (.free rfl) (OpT.storeAggTo (i := 0) (cells' := [.d (.ex (.int .i64 v_169.1.Line)), .d (.ex (.int .i64 v_169.1.Col))]) rfl rfl i23 rfl rfl rfl rfl (Nat.le_of_ble_eq_true rfl) rfl ?_)
  refine TL'.step (.free rfl) (OpT.assign rfl (dlt rfl (by decide)) rfl ?_)
  refine TL'.nil (thenS_normal ?_)
  refine T.seq ?_
  refine T.regionL ?_
  refine TL'.step (.free rfl) (OpT.move rfl (dlt rfl (by decide)) rfl ?_)
  refine TL'.step (.free rfl) (OpT.move rfl (dlt rfl (by decide)) rfl ?_)
  rcases bif_some h with ⟨c_172, h⟩ | ⟨c_172, h⟩
  · refine TL'.step (.on rfl rfl rfl c_172) (OpT.move rfl (dlt rfl (by decide)) rfl ?_)
    refine TL'.step (.free rfl) (OpT.pickT rfl (dlt rfl (by decide)) rfl c_172 rfl ?_)
    refine TL'.step (.free rfl) (OpT.move rfl (dlt rfl (by decide)) rfl ?_)
    rcases bif_some h with ⟨c_173, h⟩ | ⟨c_173, h⟩
    · refine TL'.step (.on rfl rfl rfl c_173) (OpT.move rfl (dlt rfl (by decide)) rfl ?_)
      refine TL'.step (.free rfl) (OpT.pickT rfl (dlt rfl (by decide)) rfl c_173 rfl ?_)
      refine TL'.step (.free rfl) (OpT.move rfl (dlt rfl (by decide)) rfl ?_)
      rcases bif_some h with ⟨c_174, h⟩ | ⟨c_174, h⟩
      · refine TL'.step (.on rfl rfl rfl c_174) (OpT.move rfl (dlt rfl (by decide)) rfl ?_)
        refine TL'.step (.on rfl rfl rfl c_174) (OpT.move rfl (dlt rfl (by decide)) rfl ?_)
        refine TL'.step (.on rfl rfl rfl c_174) (OpT.move rfl (dlt rfl (by decide)) rfl ?_)
        refine TL'.step (.on rfl rfl rfl c_174) (OpT.int2 rfl rfl (dlt rfl (by decide)) rfl rfl ?_)
        refine TL'.step (.on rfl rfl rfl c_174) (OpT.bool_eql rfl (dlt rfl (by decide)) Try.underlying4 rfl rfl ?_)
        refine TL'.step (.free rfl) (OpT.pickT rfl (dlt rfl (by decide)) rfl c_174 rfl ?_)
        refine TL'.step (.free rfl) (OpT.move rfl (dlt rfl (by decide)) rfl ?_)
        rcases bif_some h with ⟨c_175, h⟩ | ⟨c_175, h⟩
        · refine TL'.step (.on rfl rfl rfl c_175) (OpT.loadBoxAgg (i := 2) (l := [.ex (.int .i64 y11_0_4), .ex (.int .i64 y11_0_5)]) rfl (dlt rfl (by decide)) Try.underlying23 rfl i23 rfl rfl rfl rfl ?_)
          refine TL'.step (.on rfl rfl rfl c_175) (OpT.loadBoxAgg (i := 3) (l := [.ex (.int .i64 y13_0_7), .ex (.int .i64 y13_0_8)]) rfl (dlt rfl (by decide)) Try.underlying23 rfl i23 rfl rfl rfl rfl ?_)
          refine TL'.step (.on rfl rfl rfl c_175) (OpT.structEql (ks := [.i64, .i64]) (us := ([y11_0_4, y11_0_5] : List Int)) (ys := ([y13_0_7, y13_0_8] : List Int)) rfl (dlt rfl (by decide)) Try.underlying23 Try.stoodInHeld23 (by kernel_rfl) Try.eqGuardType23 rfl rfl rfl rfl rfl rfl rfl ?_)
          refine TL'.step (.on rfl rfl rfl c_175) (OpT.move rfl (dlt rfl (by decide)) rfl ?_)
          refine TL'.step (.on rfl rfl rfl c_175) (OpT.move rfl (dlt rfl (by decide)) rfl ?_)
          refine TL'.step (.on rfl rfl rfl c_175) (OpT.int2 rfl rfl (dlt rfl (by decide)) rfl rfl ?_)
          refine TL'.step (.on rfl rfl rfl c_175) (OpT.bool_eql rfl (dlt rfl (by decide)) Try.underlying4 rfl rfl ?_)
          refine TL'.step (.free rfl) (OpT.pickT rfl (dlt rfl (by decide)) rfl c_175 rfl ?_)
          refine TL'.step (.free rfl) (OpT.move rfl (dlt rfl (by decide)) rfl ?_)
          rcases bif_some h with ⟨c_176, h⟩ | ⟨c_176, h⟩
          · refine TL'.step (.on rfl rfl rfl c_176) (OpT.move rfl (dlt rfl (by decide)) rfl ?_)
            refine TL'.step (.free rfl) (OpT.pickT rfl (dlt rfl (by decide)) rfl c_176 rfl ?_)
            refine TL'.step (.free rfl) (OpT.move rfl (dlt rfl (by decide)) rfl ?_)
            rcases bif_some h with ⟨c_177, h⟩ | ⟨c_177, h⟩
            · refine TL'.step (.on rfl rfl rfl c_177) (OpT.move rfl (dlt rfl (by decide)) rfl ?_)
              refine TL'.step (.on rfl rfl rfl c_177) (OpT.move rfl (dlt rfl (by decide)) rfl ?_)
              refine TL'.step (.on rfl rfl rfl c_177) (OpT.int2 rfl rfl (dlt rfl (by decide)) rfl rfl ?_)
              refine TL'.step (.free rfl) (OpT.pickT rfl (dlt rfl (by decide)) rfl c_177 rfl ?_)
              refine TL'.step (.free rfl) (OpT.move rfl (dlt rfl (by decide)) rfl ?_)
              rcases bif_some h with ⟨c_178, h⟩ | ⟨c_178, h⟩
              · refine TL'.step (.on rfl rfl rfl c_178) (OpT.move rfl (dlt rfl (by decide)) rfl ?_)
                refine TL'.step (.on rfl rfl rfl c_178) (OpT.not rfl (dlt rfl (by decide)) rfl ?_)
                refine TL'.step (.free rfl) (OpT.pickT rfl (dlt rfl (by decide)) rfl c_178 rfl ?_)
                refine TL'.step (.free rfl) (OpT.move rfl (dlt rfl (by decide)) rfl ?_)
                rcases bif_some h with ⟨c_179, h⟩ | ⟨c_179, h⟩
                · refine TL'.step (.on rfl rfl rfl c_179) (OpT.move rfl (dlt rfl (by decide)) rfl ?_)
                  refine TL'.step (.on rfl rfl rfl c_179) (OpT.not rfl (dlt rfl (by decide)) rfl ?_)
                  refine TL'.step (.free rfl) (OpT.pickT rfl (dlt rfl (by decide)) rfl c_179 rfl ?_)
                  refine TL'.step (.free rfl) (OpT.assign rfl (dlt rfl (by decide)) rfl ?_)
                  refine TL'.nil (thenS_normal ?_)
                  refine T.ret ?_
                  exact Fin.done (.cons _ _ _ _ (.tmp 6 _ rfl) .nil) (by cases h; exact ⟨rfl, rfl⟩)
                · refine TL'.passU (.off _ _ _ _ rfl rfl rfl c_179) (dlt rfl (by decide)) ?_
                  refine TL'.passU (.off _ _ _ _ rfl rfl rfl c_179) (dlt rfl (by decide)) ?_
                  refine TL'.step (.free rfl) (OpT.pickF rfl (dlt rfl (by decide)) rfl c_179 rfl ?_)
                  refine TL'.step (.free rfl) (OpT.assign rfl (dlt rfl (by decide)) rfl ?_)
                  refine TL'.nil (thenS_normal ?_)
                  refine T.ret ?_
                  exact Fin.done (.cons _ _ _ _ (.tmp 6 _ rfl) .nil) (by cases h; exact ⟨rfl, rfl⟩)
              · refine TL'.passU (.off _ _ _ _ rfl rfl rfl c_178) (dlt rfl (by decide)) ?_
                refine TL'.passU (.off _ _ _ _ rfl rfl rfl c_178) (dlt rfl (by decide)) ?_
                refine TL'.step (.free rfl) (OpT.pickF rfl (dlt rfl (by decide)) rfl c_178 rfl ?_)
                refine TL'.step (.free rfl) (OpT.move rfl (dlt rfl (by decide)) rfl ?_)
                refine TL'.passU (.off _ _ _ _ rfl rfl rfl rfl) (dlt rfl (by decide)) ?_
                refine TL'.passU (.off _ _ _ _ rfl rfl rfl rfl) (dlt rfl (by decide)) ?_
                refine TL'.step (.free rfl) (OpT.pickF rfl (dlt rfl (by decide)) rfl rfl rfl ?_)
                refine TL'.step (.free rfl) (OpT.assign rfl (dlt rfl (by decide)) rfl ?_)
                refine TL'.nil (thenS_normal ?_)
                refine T.ret ?_
                exact Fin.done (.cons _ _ _ _ (.tmp 6 _ rfl) .nil) (by cases h; exact ⟨rfl, rfl⟩)
            · refine TL'.passU (.off _ _ _ _ rfl rfl rfl c_177) (dlt rfl (by decide)) ?_
              refine TL'.passU (.off _ _ _ _ rfl rfl rfl c_177) (dlt rfl (by decide)) ?_
              refine TL'.passU (.off _ _ _ _ rfl rfl rfl c_177) (dlt rfl (by decide)) ?_
              refine TL'.step (.free rfl) (OpT.pickF rfl (dlt rfl (by decide)) rfl c_177 rfl ?_)
              refine TL'.step (.free rfl) (OpT.move rfl (dlt rfl (by decide)) rfl ?_)
              refine TL'.passU (.off _ _ _ _ rfl rfl rfl rfl) (dlt rfl (by decide)) ?_
              refine TL'.passU (.off _ _ _ _ rfl rfl rfl rfl) (dlt rfl (by decide)) ?_
              refine TL'.step (.free rfl) (OpT.pickF rfl (dlt rfl (by decide)) rfl rfl rfl ?_)
              refine TL'.step (.free rfl) (OpT.move rfl (dlt rfl (by decide)) rfl ?_)
              refine TL'.passU (.off _ _ _ _ rfl rfl rfl rfl) (dlt rfl (by decide)) ?_
              refine TL'.passU (.off _ _ _ _ rfl rfl rfl rfl) (dlt rfl (by decide)) ?_
              refine TL'.step (.free rfl) (OpT.pickF rfl (dlt rfl (by decide)) rfl rfl rfl ?_)
              refine TL'.step (.free rfl) (OpT.assign rfl (dlt rfl (by decide)) rfl ?_)
              refine TL'.nil (thenS_normal ?_)
              refine T.ret ?_
              exact Fin.done (.cons _ _ _ _ (.tmp 6 _ rfl) .nil) (by cases h; exact ⟨rfl, rfl⟩)
          · refine TL'.passU (.off _ _ _ _ rfl rfl rfl c_176) (dlt rfl (by decide)) ?_
            refine TL'.step (.free rfl) (OpT.pickF rfl (dlt rfl (by decide)) rfl c_176 rfl ?_)
            refine TL'.step (.free rfl) (OpT.move rfl (dlt rfl (by decide)) rfl ?_)
            refine TL'.passU (.off _ _ _ _ rfl rfl rfl rfl) (dlt rfl (by decide)) ?_
            refine TL'.passU (.off _ _ _ _ rfl rfl rfl rfl) (dlt rfl (by decide)) ?_
            refine TL'.passU (.off _ _ _ _ rfl rfl rfl rfl) (dlt rfl (by decide)) ?_
            refine TL'.step (.free rfl) (OpT.pickF rfl (dlt rfl (by decide)) rfl rfl rfl ?_)
            refine TL'.step (.free rfl) (OpT.move rfl (dlt rfl (by decide)) rfl ?_)
            refine TL'.passU (.off _ _ _ _ rfl rfl rfl rfl) (dlt rfl (by decide)) ?_
            refine TL'.passU (.off _ _ _ _ rfl rfl rfl rfl) (dlt rfl (by decide)) ?_
            refine TL'.step (.free rfl) (OpT.pickF rfl (dlt rfl (by decide)) rfl rfl rfl ?_)
            refine TL'.step (.free rfl) (OpT.move rfl (dlt rfl (by decide)) rfl ?_)
            refine TL'.passU (.off _ _ _ _ rfl rfl rfl rfl) (dlt rfl (by decide)) ?_
            refine TL'.passU (.off _ _ _ _ rfl rfl rfl rfl) (dlt rfl (by decide)) ?_
            refine TL'.step (.free rfl) (OpT.pickF rfl (dlt rfl (by decide)) rfl rfl rfl ?_)
            refine TL'.step (.free rfl) (OpT.assign rfl (dlt rfl (by decide)) rfl ?_)
            refine TL'.nil (thenS_normal ?_)
            refine T.ret ?_
            exact Fin.done (.cons _ _ _ _ (.tmp 6 _ rfl) .nil) (by cases h; exact ⟨rfl, rfl⟩)
        · refine TL'.passU (.off _ _ _ _ rfl rfl rfl c_175) (dlt rfl (by decide)) ?_
          refine TL'.passU (.off _ _ _ _ rfl rfl rfl c_175) (dlt rfl (by decide)) ?_
          refine TL'.passU (.off _ _ _ _ rfl rfl rfl c_175) (dlt rfl (by decide)) ?_
          refine TL'.passU (.off _ _ _ _ rfl rfl rfl c_175) (dlt rfl (by decide)) ?_
          refine TL'.passU (.off _ _ _ _ rfl rfl rfl c_175) (dlt rfl (by decide)) ?_
          refine TL'.passU (.off _ _ _ _ rfl rfl rfl c_175) (dlt rfl (by decide)) ?_
          refine TL'.passU (.off _ _ _ _ rfl rfl rfl c_175) (dlt rfl (by decide)) ?_
          refine TL'.step (.free rfl) (OpT.pickF rfl (dlt rfl (by decide)) rfl c_175 rfl ?_)
          refine TL'.step (.free rfl) (OpT.move rfl (dlt rfl (by decide)) rfl ?_)
          refine TL'.passU (.off _ _ _ _ rfl rfl rfl rfl) (dlt rfl (by decide)) ?_
          refine TL'.step (.free rfl) (OpT.pickF rfl (dlt rfl (by decide)) rfl rfl rfl ?_)
          refine TL'.step (.free rfl) (OpT.move rfl (dlt rfl (by decide)) rfl ?_)
          refine TL'.passU (.off _ _ _ _ rfl rfl rfl rfl) (dlt rfl (by decide)) ?_
          refine TL'.passU (.off _ _ _ _ rfl rfl rfl rfl) (dlt rfl (by decide)) ?_
          refine TL'.passU (.off _ _ _ _ rfl rfl rfl rfl) (dlt rfl (by decide)) ?_
          refine TL'.step (.free rfl) (OpT.pickF rfl (dlt rfl (by decide)) rfl rfl rfl ?_)
          refine TL'.step (.free rfl) (OpT.move rfl (dlt rfl (by decide)) rfl ?_)
          refine TL'.passU (.off _ _ _ _ rfl rfl rfl rfl) (dlt rfl (by decide)) ?_
          refine TL'.passU (.off _ _ _ _ rfl rfl rfl rfl) (dlt rfl (by decide)) ?_
          refine TL'.step (.free rfl) (OpT.pickF rfl (dlt rfl (by decide)) rfl rfl rfl ?_)
          refine TL'.step (.free rfl) (OpT.move rfl (dlt rfl (by decide)) rfl ?_)
          refine TL'.passU (.off _ _ _ _ rfl rfl rfl rfl) (dlt rfl (by decide)) ?_
          refine TL'.passU (.off _ _ _ _ rfl rfl rfl rfl) (dlt rfl (by decide)) ?_
          refine TL'.step (.free rfl) (OpT.pickF rfl (dlt rfl (by decide)) rfl rfl rfl ?_)
          refine TL'.step (.free rfl) (OpT.assign rfl (dlt rfl (by decide)) rfl ?_)
          refine TL'.nil (thenS_normal ?_)
          refine T.ret ?_
          exact Fin.done (.cons _ _ _ _ (.tmp 6 _ rfl) .nil) (by cases h; exact ⟨rfl, rfl⟩)
      · refine TL'.passU (.off _ _ _ _ rfl rfl rfl c_174) (dlt rfl (by decide)) ?_
        refine TL'.passU (.off _ _ _ _ rfl rfl rfl c_174) (dlt rfl (by decide)) ?_
        refine TL'.passU (.off _ _ _ _ rfl rfl rfl c_174) (dlt rfl (by decide)) ?_
        refine TL'.passU (.off _ _ _ _ rfl rfl rfl c_174) (dlt rfl (by decide)) ?_
        refine TL'.passU (.off _ _ _ _ rfl rfl rfl c_174) (dlt rfl (by decide)) ?_
        refine TL'.step (.free rfl) (OpT.pickF rfl (dlt rfl (by decide)) rfl c_174 rfl ?_)
        refine TL'.step (.free rfl) (OpT.move rfl (dlt rfl (by decide)) rfl ?_)
        refine TL'.passU (.off _ _ _ _ rfl rfl rfl rfl) (dlt rfl (by decide)) ?_
        refine TL'.passU (.off _ _ _ _ rfl rfl rfl rfl) (dlt rfl (by decide)) ?_
        refine TL'.passU (.off _ _ _ _ rfl rfl rfl rfl) (dlt rfl (by decide)) ?_
        refine TL'.passU (.off _ _ _ _ rfl rfl rfl rfl) (dlt rfl (by decide)) ?_
        refine TL'.passU (.off _ _ _ _ rfl rfl rfl rfl) (dlt rfl (by decide)) ?_
        refine TL'.passU (.off _ _ _ _ rfl rfl rfl rfl) (dlt rfl (by decide)) ?_
        refine TL'.passU (.off _ _ _ _ rfl rfl rfl rfl) (dlt rfl (by decide)) ?_
        refine TL'.step (.free rfl) (OpT.pickF rfl (dlt rfl (by decide)) rfl rfl rfl ?_)
        refine TL'.step (.free rfl) (OpT.move rfl (dlt rfl (by decide)) rfl ?_)
        refine TL'.passU (.off _ _ _ _ rfl rfl rfl rfl) (dlt rfl (by decide)) ?_
        refine TL'.step (.free rfl) (OpT.pickF rfl (dlt rfl (by decide)) rfl rfl rfl ?_)
        refine TL'.step (.free rfl) (OpT.move rfl (dlt rfl (by decide)) rfl ?_)
        refine TL'.passU (.off _ _ _ _ rfl rfl rfl rfl) (dlt rfl (by decide)) ?_
        refine TL'.passU (.off _ _ _ _ rfl rfl rfl rfl) (dlt rfl (by decide)) ?_
        refine TL'.passU (.off _ _ _ _ rfl rfl rfl rfl) (dlt rfl (by decide)) ?_
        refine TL'.step (.free rfl) (OpT.pickF rfl (dlt rfl (by decide)) rfl rfl rfl ?_)
        refine TL'.step (.free rfl) (OpT.move rfl (dlt rfl (by decide)) rfl ?_)
        refine TL'.passU (.off _ _ _ _ rfl rfl rfl rfl) (dlt rfl (by decide)) ?_
        refine TL'.passU (.off _ _ _ _ rfl rfl rfl rfl) (dlt rfl (by decide)) ?_
        refine TL'.step (.free rfl) (OpT.pickF rfl (dlt rfl (by decide)) rfl rfl rfl ?_)
        refine TL'.step (.free rfl) (OpT.move rfl (dlt rfl (by decide)) rfl ?_)
        refine TL'.passU (.off _ _ _ _ rfl rfl rfl rfl) (dlt rfl (by decide)) ?_
        refine TL'.passU (.off _ _ _ _ rfl rfl rfl rfl) (dlt rfl (by decide)) ?_
        refine TL'.step (.free rfl) (OpT.pickF rfl (dlt rfl (by decide)) rfl rfl rfl ?_)
        refine TL'.step (.free rfl) (OpT.assign rfl (dlt rfl (by decide)) rfl ?_)
        refine TL'.nil (thenS_normal ?_)
        refine T.ret ?_
        exact Fin.done (.cons _ _ _ _ (.tmp 6 _ rfl) .nil) (by cases h; exact ⟨rfl, rfl⟩)
    · refine TL'.passU (.off _ _ _ _ rfl rfl rfl c_173) (dlt rfl (by decide)) ?_
      refine TL'.step (.free rfl) (OpT.pickF rfl (dlt rfl (by decide)) rfl c_173 rfl ?_)
      refine TL'.step (.free rfl) (OpT.move rfl (dlt rfl (by decide)) rfl ?_)
      refine TL'.passU (.off _ _ _ _ rfl rfl rfl rfl) (dlt rfl (by decide)) ?_
      refine TL'.passU (.off _ _ _ _ rfl rfl rfl rfl) (dlt rfl (by decide)) ?_
      refine TL'.passU (.off _ _ _ _ rfl rfl rfl rfl) (dlt rfl (by decide)) ?_
      refine TL'.passU (.off _ _ _ _ rfl rfl rfl rfl) (dlt rfl (by decide)) ?_
      refine TL'.passU (.off _ _ _ _ rfl rfl rfl rfl) (dlt rfl (by decide)) ?_
      refine TL'.step (.free rfl) (OpT.pickF rfl (dlt rfl (by decide)) rfl rfl rfl ?_)
      refine TL'.step (.free rfl) (OpT.move rfl (dlt rfl (by decide)) rfl ?_)
      refine TL'.passU (.off _ _ _ _ rfl rfl rfl rfl) (dlt rfl (by decide)) ?_
      refine TL'.passU (.off _ _ _ _ rfl rfl rfl rfl) (dlt rfl (by decide)) ?_
      refine TL'.passU (.off _ _ _ _ rfl rfl rfl rfl) (dlt rfl (by decide)) ?_
      refine TL'.passU (.off _ _ _ _ rfl rfl rfl rfl) (dlt rfl (by decide)) ?_
      refine TL'.passU (.off _ _ _ _ rfl rfl rfl rfl) (dlt rfl (by decide)) ?_
      refine TL'.passU (.off _ _ _ _ rfl rfl rfl rfl) (dlt rfl (by decide)) ?_
      refine TL'.passU (.off _ _ _ _ rfl rfl rfl rfl) (dlt rfl (by decide)) ?_
      refine TL'.step (.free rfl) (OpT.pickF rfl (dlt rfl (by decide)) rfl rfl rfl ?_)
      refine TL'.step (.free rfl) (OpT.move rfl (dlt rfl (by decide)) rfl ?_)
      refine TL'.passU (.off _ _ _ _ rfl rfl rfl rfl) (dlt rfl (by decide)) ?_
      refine TL'.step (.free rfl) (OpT.pickF rfl (dlt rfl (by decide)) rfl rfl rfl ?_)
      refine TL'.step (.free rfl) (OpT.move rfl (dlt rfl (by decide)) rfl ?_)
      refine TL'.passU (.off _ _ _ _ rfl rfl rfl rfl) (dlt rfl (by decide)) ?_
      refine TL'.passU (.off _ _ _ _ rfl rfl rfl rfl) (dlt rfl (by decide)) ?_
      refine TL'.passU (.off _ _ _ _ rfl rfl rfl rfl) (dlt rfl (by decide)) ?_
      refine TL'.step (.free rfl) (OpT.pickF rfl (dlt rfl (by decide)) rfl rfl rfl ?_)
      refine TL'.step (.free rfl) (OpT.move rfl (dlt rfl (by decide)) rfl ?_)
      refine TL'.passU (.off _ _ _ _ rfl rfl rfl rfl) (dlt rfl (by decide)) ?_
      refine TL'.passU (.off _ _ _ _ rfl rfl rfl rfl) (dlt rfl (by decide)) ?_
      refine TL'.step (.free rfl) (OpT.pickF rfl (dlt rfl (by decide)) rfl rfl rfl ?_)
      refine TL'.step (.free rfl) (OpT.move rfl (dlt rfl (by decide)) rfl ?_)
      refine TL'.passU (.off _ _ _ _ rfl rfl rfl rfl) (dlt rfl (by decide)) ?_
      refine TL'.passU (.off _ _ _ _ rfl rfl rfl rfl) (dlt rfl (by decide)) ?_
      refine TL'.step (.free rfl) (OpT.pickF rfl (dlt rfl (by decide)) rfl rfl rfl ?_)
      refine TL'.step (.free rfl) (OpT.assign rfl (dlt rfl (by decide)) rfl ?_)
      refine TL'.nil (thenS_normal ?_)
      refine T.ret ?_
      exact Fin.done (.cons _ _ _ _ (.tmp 6 _ rfl) .nil) (by cases h; exact ⟨rfl, rfl⟩)
  · refine TL'.passU (.off _ _ _ _ rfl rfl rfl c_172) (dlt rfl (by decide)) ?_
    refine TL'.step (.free rfl) (OpT.pickF rfl (dlt rfl (by decide)) rfl c_172 rfl ?_)
    refine TL'.step (.free rfl) (OpT.move rfl (dlt rfl (by decide)) rfl ?_)
    refine TL'.passU (.off _ _ _ _ rfl rfl rfl rfl) (dlt rfl (by decide)) ?_
    refine TL'.step (.free rfl) (OpT.pickF rfl (dlt rfl (by decide)) rfl rfl rfl ?_)
    refine TL'.step (.free rfl) (OpT.move rfl (dlt rfl (by decide)) rfl ?_)
    refine TL'.passU (.off _ _ _ _ rfl rfl rfl rfl) (dlt rfl (by decide)) ?_
    refine TL'.passU (.off _ _ _ _ rfl rfl rfl rfl) (dlt rfl (by decide)) ?_
    refine TL'.passU (.off _ _ _ _ rfl rfl rfl rfl) (dlt rfl (by decide)) ?_
    refine TL'.passU (.off _ _ _ _ rfl rfl rfl rfl) (dlt rfl (by decide)) ?_
    refine TL'.passU (.off _ _ _ _ rfl rfl rfl rfl) (dlt rfl (by decide)) ?_
    refine TL'.step (.free rfl) (OpT.pickF rfl (dlt rfl (by decide)) rfl rfl rfl ?_)
    refine TL'.step (.free rfl) (OpT.move rfl (dlt rfl (by decide)) rfl ?_)
    refine TL'.passU (.off _ _ _ _ rfl rfl rfl rfl) (dlt rfl (by decide)) ?_
    refine TL'.passU (.off _ _ _ _ rfl rfl rfl rfl) (dlt rfl (by decide)) ?_
    refine TL'.passU (.off _ _ _ _ rfl rfl rfl rfl) (dlt rfl (by decide)) ?_
    refine TL'.passU (.off _ _ _ _ rfl rfl rfl rfl) (dlt rfl (by decide)) ?_
    refine TL'.passU (.off _ _ _ _ rfl rfl rfl rfl) (dlt rfl (by decide)) ?_
    refine TL'.passU (.off _ _ _ _ rfl rfl rfl rfl) (dlt rfl (by decide)) ?_
    refine TL'.passU (.off _ _ _ _ rfl rfl rfl rfl) (dlt rfl (by decide)) ?_
    refine TL'.step (.free rfl) (OpT.pickF rfl (dlt rfl (by decide)) rfl rfl rfl ?_)
    refine TL'.step (.free rfl) (OpT.move rfl (dlt rfl (by decide)) rfl ?_)
    refine TL'.passU (.off _ _ _ _ rfl rfl rfl rfl) (dlt rfl (by decide)) ?_
    refine TL'.step (.free rfl) (OpT.pickF rfl (dlt rfl (by decide)) rfl rfl rfl ?_)
    refine TL'.step (.free rfl) (OpT.move rfl (dlt rfl (by decide)) rfl ?_)
    refine TL'.passU (.off _ _ _ _ rfl rfl rfl rfl) (dlt rfl (by decide)) ?_
    refine TL'.passU (.off _ _ _ _ rfl rfl rfl rfl) (dlt rfl (by decide)) ?_
    refine TL'.passU (.off _ _ _ _ rfl rfl rfl rfl) (dlt rfl (by decide)) ?_
    refine TL'.step (.free rfl) (OpT.pickF rfl (dlt rfl (by decide)) rfl rfl rfl ?_)
    refine TL'.step (.free rfl) (OpT.move rfl (dlt rfl (by decide)) rfl ?_)
    refine TL'.passU (.off _ _ _ _ rfl rfl rfl rfl) (dlt rfl (by decide)) ?_
    refine TL'.passU (.off _ _ _ _ rfl rfl rfl rfl) (dlt rfl (by decide)) ?_
    refine TL'.step (.free rfl) (OpT.pickF rfl (dlt rfl (by decide)) rfl rfl rfl ?_)
    refine TL'.step (.free rfl) (OpT.move rfl (dlt rfl (by decide)) rfl ?_)
    refine TL'.passU (.off _ _ _ _ rfl rfl rfl rfl) (dlt rfl (by decide)) ?_
    refine TL'.passU (.off _ _ _ _ rfl rfl rfl rfl) (dlt rfl (by decide)) ?_
    refine TL'.step (.free rfl) (OpT.pickF rfl (dlt rfl (by decide)) rfl rfl rfl ?_)
    refine TL'.step (.free rfl) (OpT.assign rfl (dlt rfl (by decide)) rfl ?_)
    refine TL'.nil (thenS_normal ?_)
    refine T.ret ?_
    exact Fin.done (.cons _ _ _ _ (.tmp 6 _ rfl) .nil) (by cases h; exact ⟨rfl, rfl⟩)

theorem raddlelaw19_PlaceOrder_T {K : Nat} {x0 : List Int} {x1 : Int} {x2 : Int} {fl0 : Bool} {r : Bool} (h : raddlelaw19_PlaceOrder K x0 x1 x2 = some r) : CallR Try.prog 5 [.c (.sl fl0 1 (x0.map (cI .u8))), .c (.ex (.int .u8 x1)), .c (.ex (.int .u8 x2))] [] (.c (.ex (.bool r))) := by
  refine CallT.intro Try.func5 rfl (Nat.le_of_ble_eq_true rfl) ?_
  show T Try.prog 126 (Code.at [] (codeOf Try.f5)) ⟨paramSlots 0 [.c (.sl fl0 1 (x0.map (cI .u8))), .c (.ex (.int .u8 x1)), .c (.ex (.int .u8 x2))], []⟩ (raddlelaw19_PlaceOrder_q r)
  unfold raddlelaw19_PlaceOrder at h
  refine T.seq ?_
  refine T.regionL ?_
  refine TL'.step (.free rfl) (OpT.assign rfl (dlt rfl (by decide)) rfl ?_)
  refine TL'.nil (thenS_normal ?_)
  refine T.seq ?_
  refine T.regionL ?_
  obtain ⟨v_151, e_152, h⟩ := bind_some h
  refine TL'.step (.free rfl) (OpT.callP rfl (dlt rfl (by decide)) Try.func7 rfl rfl rfl (CallR.nil (raddlelaw19_shown_T e_152)) ?_)
  refine TL'.step (.free rfl) (OpT.assign rfl (dlt rfl (by decide)) rfl ?_)
  refine TL'.nil (thenS_normal ?_)
  refine T.seq ?_
  refine T.regionL ?_
  refine TL'.step (.free rfl) (OpT.move rfl (dlt rfl (by decide)) rfl ?_)
  obtain ⟨v_153, e_154, h⟩ := bind_some h
  refine TL'.step (.free rfl) (OpT.callP rfl (dlt rfl (by decide)) Try.func8 rfl rfl rfl (CallR.nil (raddlelaw19_few_T (fl0 := fl0) e_154)) ?_)
  refine TL'.step (.free rfl) (OpT.assign rfl (dlt rfl (by decide)) rfl ?_)
  refine TL'.nil (thenS_normal ?_)
  refine T.seq ?_
  obtain ⟨g_156, h⟩ := ck_some h
  refine T.draw (s1 := ⟨[(7, .c (.ex (.bool v_151))), (8, .c (.sl false 1 (v_153.map (cI .u8)))), (9, .c (.ex (.int .i64 (Int.tmod (IntKind.i64.wrap x1) (IntKind.i64.wrap ((v_153.length : Int) + (1 : Int))))))), (10, .c (.ex (.int .i64 (Int.tmod (IntKind.i64.wrap x2) (IntKind.i64.wrap ((v_153.length : Int) + (1 : Int)))))))], []⟩) (ms := [0, 1, 0, 4, 12, 31, 0, 64, 0, 256, 768, 1984, 63, 8191]) TryMixed (.cons (c := ⟨some 25, .c (.ex (.int .u8 x1)), [(1, .c (.ex (.int .u8 x1)))], [], []⟩) (fun t hm => One.step rfl (.free rfl) (OpT.move rfl (dlt rfl (by decide)) (hm.slots (1, _) (.head _)) rfl)) (Ct.met_of rfl rfl) (.cons (c := ⟨some 26, .c (.ex (.int .i64 (IntKind.i64.wrap x1))), [(25, .c (.ex (.int .u8 x1)))], [], []⟩) (fun t hm => One.step rfl (.free rfl) (OpT.convInt rfl (dlt rfl (by decide)) Try.underlying5 Try.underlying3 (hm.slots (25, _) (.head _)) rfl)) (Ct.met_of rfl rfl) (.cons (c := ⟨some 27, .c (.sl false 1 (v_153.map (cI .u8))), [(8, .c (.sl false 1 (v_153.map (cI .u8))))], [], []⟩) (fun t hm => One.step rfl (.free rfl) (OpT.move rfl (dlt rfl (by decide)) (hm.slots (8, _) (.head _)) rfl)) (Ct.met_of rfl rfl) (.cons (c := ⟨some 28, .c (.ex (.int .i64 (v_153.length : Int))), [(27, .c (.sl false 1 (v_153.map (cI .u8))))], [], []⟩) (fun t hm => One.step rfl (.free rfl) (OpT.lenSlM (xs := v_153) (f := (cI .u8)) rfl (dlt rfl (by decide)) Try.underlying24 (hm.slots (27, _) (.head _)) rfl)) (Ct.met_of rfl rfl) (.cons (c := ⟨some 29, .c (.ex (.int .i64 (IntKind.i64.wrap ((v_153.length : Int) + (1 : Int))))), [(28, .c (.ex (.int .i64 (v_153.length : Int))))], [], []⟩) (fun t hm => One.step rfl (.free rfl) (OpT.int2 rfl rfl (dlt rfl (by decide)) (hm.slots (28, _) (.head _)) rfl rfl)) (Ct.met_of rfl rfl) (.cons (c := ⟨some 30, .c (.ex (.int .i64 (Int.tmod (IntKind.i64.wrap x1) (IntKind.i64.wrap ((v_153.length : Int) + (1 : Int)))))), [(26, .c (.ex (.int .i64 (IntKind.i64.wrap x1)))), (29, .c (.ex (.int .i64 (IntKind.i64.wrap ((v_153.length : Int) + (1 : Int))))))], [], []⟩) (fun t hm => One.step rfl (.free rfl) (OpT.rem rfl (dlt rfl (by decide)) (hm.slots (26, _) (.head _)) (hm.slots (29, _) (.tail _ (.head _))) g_156 rfl)) (Ct.met_of rfl rfl) (.cons (c := ⟨some 31, .c (.ex (.int .u8 x2)), [(2, .c (.ex (.int .u8 x2)))], [], []⟩) (fun t hm => One.step rfl (.free rfl) (OpT.move rfl (dlt rfl (by decide)) (hm.slots (2, _) (.head _)) rfl)) (Ct.met_of rfl rfl) (.cons (c := ⟨some 32, .c (.ex (.int .i64 (IntKind.i64.wrap x2))), [(31, .c (.ex (.int .u8 x2)))], [], []⟩) (fun t hm => One.step rfl (.free rfl) (OpT.convInt rfl (dlt rfl (by decide)) Try.underlying5 Try.underlying3 (hm.slots (31, _) (.head _)) rfl)) (Ct.met_of rfl rfl) (.cons (c := ⟨some 33, .c (.sl false 1 (v_153.map (cI .u8))), [(8, .c (.sl false 1 (v_153.map (cI .u8))))], [], []⟩) (fun t hm => One.step rfl (.free rfl) (OpT.move rfl (dlt rfl (by decide)) (hm.slots (8, _) (.head _)) rfl)) (Ct.met_of rfl rfl) (.cons (c := ⟨some 34, .c (.ex (.int .i64 (v_153.length : Int))), [(33, .c (.sl false 1 (v_153.map (cI .u8))))], [], []⟩) (fun t hm => One.step rfl (.free rfl) (OpT.lenSlM (xs := v_153) (f := (cI .u8)) rfl (dlt rfl (by decide)) Try.underlying24 (hm.slots (33, _) (.head _)) rfl)) (Ct.met_of rfl rfl) (.cons (c := ⟨some 35, .c (.ex (.int .i64 (IntKind.i64.wrap ((v_153.length : Int) + (1 : Int))))), [(34, .c (.ex (.int .i64 (v_153.length : Int))))], [], []⟩) (fun t hm => One.step rfl (.free rfl) (OpT.int2 rfl rfl (dlt rfl (by decide)) (hm.slots (34, _) (.head _)) rfl rfl)) (Ct.met_of rfl rfl) (.cons (c := ⟨some 36, .c (.ex (.int .i64 (Int.tmod (IntKind.i64.wrap x2) (IntKind.i64.wrap ((v_153.length : Int) + (1 : Int)))))), [(32, .c (.ex (.int .i64 (IntKind.i64.wrap x2)))), (35, .c (.ex (.int .i64 (IntKind.i64.wrap ((v_153.length : Int) + (1 : Int))))))], [], []⟩) (fun t hm => One.step rfl (.free rfl) (OpT.rem rfl (dlt rfl (by decide)) (hm.slots (32, _) (.head _)) (hm.slots (35, _) (.tail _ (.head _))) g_156 rfl)) (Ct.met_of rfl rfl) (.cons (c := ⟨some 9, .c (.ex (.int .i64 (Int.tmod (IntKind.i64.wrap x1) (IntKind.i64.wrap ((v_153.length : Int) + (1 : Int)))))), [(30, .c (.ex (.int .i64 (Int.tmod (IntKind.i64.wrap x1) (IntKind.i64.wrap ((v_153.length : Int) + (1 : Int)))))))], [], []⟩) (fun t hm => One.step rfl (.free rfl) (OpT.assign rfl (dlt rfl (by decide)) (hm.slots (30, _) (.head _)) rfl)) (Ct.met_of rfl rfl) (.cons (c := ⟨some 10, .c (.ex (.int .i64 (Int.tmod (IntKind.i64.wrap x2) (IntKind.i64.wrap ((v_153.length : Int) + (1 : Int)))))), [(36, .c (.ex (.int .i64 (Int.tmod (IntKind.i64.wrap x2) (IntKind.i64.wrap ((v_153.length : Int) + (1 : Int)))))))], [], []⟩) (fun t hm => One.step rfl (.free rfl) (OpT.assign rfl (dlt rfl (by decide)) (hm.slots (36, _) (.head _)) rfl)) (Ct.met_of rfl rfl) (.nil _ _))))))))))))))) rfl (by kernel_rfl) (by kernel_rfl) (by kernel_rfl) (.cons rfl (.cons rfl (.cons rfl (.cons rfl (.nil _))))) rfl (fun u hu => (thenS_normal (T.by_turn hu ?_)))
  refine T.seq ?_
  refine T.regionL ?_
  refine TL'.step (.free rfl) (OpT.move rfl (dlt rfl (by decide)) rfl ?_)
  refine TL'.step (.free rfl) (OpT.move rfl (dlt rfl (by decide)) rfl ?_)
  obtain ⟨v_157, e_158, h⟩ := bind_some h
  refine TL'.step (.free rfl) (OpT.callP rfl (dlt rfl (by decide)) Try.func11 rfl rfl rfl (CallR.nil (place_Of_T (fl0 := false) e_158)) ?_)
  refine TL'.step (.free rfl) (OpT.move rfl (dlt rfl (by decide)) rfl ?_)
  refine TL'.step (.free rfl) (OpT.extract rfl (dlt rfl (by decide)) rfl rfl ?_)
  refine TL'.step (.free rfl) (OpT.extract rfl (dlt rfl (by decide)) rfl rfl ?_)
  refine TL'.step (.free rfl) (OpT.alloc' rfl (dlt rfl (by decide)) i23 rfl (fun b_159 => ?_))
  refine TL'.step (.free rfl) (OpT.storeAggTo (i := 0) (cells' := [.d (.ex (.int .i64 v_157.1.Line)), .d (.ex (.int .i64 v_157.1.Col))]) rfl rfl i23 rfl rfl rfl rfl (Nat.le_of_ble_eq_true rfl) rfl ?_)
  refine TL'.step (.free rfl) (OpT.assign rfl (dlt rfl (by decide)) rfl ?_)
  refine TL'.nil (thenS_normal ?_)
  refine T.seq ?_
  refine T.regionL ?_
  refine TL'.step (.free rfl) (OpT.move rfl (dlt rfl (by decide)) rfl ?_)
  refine TL'.step (.free rfl) (OpT.move rfl (dlt rfl (by decide)) rfl ?_)
  obtain ⟨v_160, e_161, h⟩ := bind_some h
  refine TL'.step (.free rfl) (OpT.callP rfl (dlt rfl (by decide)) Try.func11 rfl rfl rfl (CallR.nil (place_Of_T (fl0 := false) e_161)) ?_)
  refine TL'.step (.free rfl) (OpT.move rfl (dlt rfl (by decide)) rfl ?_)
  refine TL'.step (.free rfl) (OpT.extract rfl (dlt rfl (by decide)) rfl rfl ?_)
  refine TL'.step (.free rfl) (OpT.extract rfl (dlt rfl (by decide)) rfl rfl ?_)
  refine TL'.step (.free rfl) (OpT.alloc' rfl (dlt rfl (by decide)) i23 rfl (fun b_162 => ?_))
  refine TL'.step (.free rfl) (OpT.storeAggTo (i := 0) (cells' := [.d (.ex (.int .i64 v_160.1.Line)), .d (.ex (.int .i64 v_160.1.Col))]) rfl rfl i23 rfl rfl rfl rfl (Nat.le_of_ble_eq_true rfl) rfl ?_)
  refine TL'.step (.free rfl) (OpT.assign rfl (dlt rfl (by decide)) rfl ?_)
  refine TL'.nil (thenS_normal ?_)
  refine T.seq ?_
  refine T.regionL ?_
  refine TL'.step (.free rfl) (OpT.fieldPtr rfl (dlt rfl (by decide)) Try.underlying23 rfl i3 (by decide) rfl ?_)
  refine TL'.step (.free rfl) (OpT.loadBox (i := 1) rfl (dlt rfl (by decide)) Try.underlying3 rfl rfl rfl rfl ?_)
  refine TL'.step (.free rfl) (OpT.fieldPtr rfl (dlt rfl (by decide)) Try.underlying23 rfl i3 (by decide) rfl ?_)
  refine TL'.step (.free rfl) (OpT.loadBox (i := 0) rfl (dlt rfl (by decide)) Try.underlying3 rfl rfl rfl rfl ?_)
  refine TL'.step (.free rfl) (OpT.int2 rfl rfl (dlt rfl (by decide)) rfl rfl ?_)
  refine TL'.step (.free rfl) (OpT.move rfl (dlt rfl (by decide)) rfl ?_)
  rcases bif_some h with ⟨c_163, h⟩ | ⟨c_163, h⟩
  · refine TL'.passU (.off _ _ _ _ rfl rfl rfl c_163) (dlt rfl (by decide)) ?_
    refine TL'.passU (.off _ _ _ _ rfl rfl rfl c_163) (dlt rfl (by decide)) ?_
    refine TL'.passU (.off _ _ _ _ rfl rfl rfl c_163) (dlt rfl (by decide)) ?_
    refine TL'.passU (.off _ _ _ _ rfl rfl rfl c_163) (dlt rfl (by decide)) ?_
    refine TL'.passU (.off _ _ _ _ rfl rfl rfl c_163) (dlt rfl (by decide)) ?_
    refine TL'.passU (.off _ _ _ _ rfl rfl rfl c_163) (dlt rfl (by decide)) ?_
    refine TL'.passU (.gone _ _ _ rfl rfl rfl) (dlt rfl (by decide)) ?_
    refine TL'.passU (.gone _ _ _ rfl rfl rfl) (dlt rfl (by decide)) ?_
    refine TL'.passU (.gone _ _ _ rfl rfl rfl) (dlt rfl (by decide)) ?_
    refine TL'.passU (.gone _ _ _ rfl rfl rfl) (dlt rfl (by decide)) ?_
    refine TL'.passU (.gone _ _ _ rfl rfl rfl) (dlt rfl (by decide)) ?_
    refine TL'.passU (.off _ _ _ _ rfl rfl rfl c_163) (dlt rfl (by decide)) ?_
    refine TL'.step (.free rfl) (OpT.pickT rfl (dlt rfl (by decide)) rfl c_163 rfl ?_)
    refine TL'.step (.free rfl) (OpT.assign rfl (dlt rfl (by decide)) rfl ?_)
    refine TL'.nil (thenS_normal ?_)
    refine T.by_turn ?_ (raddlelaw19_PlaceOrder_j0_T K v_151 v_153 (Int.tmod (IntKind.i64.wrap x1) (IntKind.i64.wrap ((v_153.length : Int) + (1 : Int)))) (Int.tmod (IntKind.i64.wrap x2) (IntKind.i64.wrap ((v_153.length : Int) + (1 : Int)))) v_157.2 v_160.2 true v_157.1.Line v_157.1.Col v_160.1.Line v_160.1.Col b_159 b_162 h)
    exact Turn.re (.cons rfl (.cons rfl (.cons rfl (.cons rfl (.cons rfl (.cons rfl (.cons rfl (.cons rfl (.cons rfl (.nil _)))))))))) (.cons 1 rfl (.cons 0 rfl (.nil _)))
  · refine TL'.step (.on rfl rfl rfl c_163) (OpT.fieldPtr rfl (dlt rfl (by decide)) Try.underlying23 rfl i3 (by decide) rfl ?_)
    refine TL'.step (.on rfl rfl rfl c_163) (OpT.loadBox (i := 1) rfl (dlt rfl (by decide)) Try.underlying3 rfl rfl rfl rfl ?_)
    refine TL'.step (.on rfl rfl rfl c_163) (OpT.fieldPtr rfl (dlt rfl (by decide)) Try.underlying23 rfl i3 (by decide) rfl ?_)
    refine TL'.step (.on rfl rfl rfl c_163) (OpT.loadBox (i := 0) rfl (dlt rfl (by decide)) Try.underlying3 rfl rfl rfl rfl ?_)
    refine TL'.step (.on rfl rfl rfl c_163) (OpT.int2 rfl rfl (dlt rfl (by decide)) rfl rfl ?_)
    refine TL'.step (.on rfl rfl rfl c_163) (OpT.move rfl (dlt rfl (by decide)) rfl ?_)
    rcases bif_some h with ⟨c_180, h⟩ | ⟨c_180, h⟩
    · refine TL'.step (.on rfl rfl rfl c_180) (OpT.fieldPtr rfl (dlt rfl (by decide)) Try.underlying23 rfl i3 (by decide) rfl ?_)
      refine TL'.step (.on rfl rfl rfl c_180) (OpT.loadBox (i := 1) rfl (dlt rfl (by decide)) Try.underlying3 rfl rfl rfl rfl ?_)
      refine TL'.step (.on rfl rfl rfl c_180) (OpT.fieldPtr rfl (dlt rfl (by decide)) Try.underlying23 rfl i3 (by decide) rfl ?_)
      refine TL'.step (.on rfl rfl rfl c_180) (OpT.loadBox (i := 0) rfl (dlt rfl (by decide)) Try.underlying3 rfl rfl rfl rfl ?_)
      refine TL'.step (.on rfl rfl rfl c_180) (OpT.int2 rfl rfl (dlt rfl (by decide)) rfl rfl ?_)
      refine TL'.step (.on rfl rfl rfl c_163) (OpT.pickT rfl (dlt rfl (by decide)) rfl c_180 rfl ?_)
      refine TL'.step (.free rfl) (OpT.pickF rfl (dlt rfl (by decide)) rfl c_163 rfl ?_)
      refine TL'.step (.free rfl) (OpT.assign rfl (dlt rfl (by decide)) rfl ?_)
      refine TL'.nil (thenS_normal ?_)
      refine T.by_turn ?_ (raddlelaw19_PlaceOrder_j0_T K v_151 v_153 (Int.tmod (IntKind.i64.wrap x1) (IntKind.i64.wrap ((v_153.length : Int) + (1 : Int)))) (Int.tmod (IntKind.i64.wrap x2) (IntKind.i64.wrap ((v_153.length : Int) + (1 : Int)))) v_157.2 v_160.2 (decide (v_157.1.Col < v_160.1.Col)) v_157.1.Line v_157.1.Col v_160.1.Line v_160.1.Col b_159 b_162 h)
      exact Turn.re (.cons rfl (.cons rfl (.cons rfl (.cons rfl (.cons rfl (.cons rfl (.cons rfl (.cons rfl (.cons rfl (.nil _)))))))))) (.cons 1 rfl (.cons 0 rfl (.nil _)))
    · refine TL'.passU (.off _ _ _ _ rfl rfl rfl c_180) (dlt rfl (by decide)) ?_
      refine TL'.passU (.off _ _ _ _ rfl rfl rfl c_180) (dlt rfl (by decide)) ?_
      refine TL'.passU (.off _ _ _ _ rfl rfl rfl c_180) (dlt rfl (by decide)) ?_
      refine TL'.passU (.off _ _ _ _ rfl rfl rfl c_180) (dlt rfl (by decide)) ?_
      refine TL'.passU (.off _ _ _ _ rfl rfl rfl c_180) (dlt rfl (by decide)) ?_
      refine TL'.step (.on rfl rfl rfl c_163) (OpT.pickF rfl (dlt rfl (by decide)) rfl c_180 rfl ?_)
      refine TL'.step (.free rfl) (OpT.pickF rfl (dlt rfl (by decide)) rfl c_163 rfl ?_)
      refine TL'.step (.free rfl) (OpT.assign rfl (dlt rfl (by decide)) rfl ?_)
      refine TL'.nil (thenS_normal ?_)
      refine T.by_turn ?_ (raddlelaw19_PlaceOrder_j0_T K v_151 v_153 (Int.tmod (IntKind.i64.wrap x1) (IntKind.i64.wrap ((v_153.length : Int) + (1 : Int)))) (Int.tmod (IntKind.i64.wrap x2) (IntKind.i64.wrap ((v_153.length : Int) + (1 : Int)))) v_157.2 v_160.2 false v_157.1.Line v_157.1.Col v_160.1.Line v_160.1.Col b_159 b_162 h)
      exact Turn.re (.cons rfl (.cons rfl (.cons rfl (.cons rfl (.cons rfl (.cons rfl (.cons rfl (.cons rfl (.cons rfl (.nil _)))))))))) (.cons 1 rfl (.cons 0 rfl (.nil _)))

end Go.Rv

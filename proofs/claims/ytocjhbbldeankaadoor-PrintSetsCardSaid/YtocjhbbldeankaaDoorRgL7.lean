/- Each function computes what its plain text says: printed by a program of ours. -/
import Derived.Test.YtocjhbbldeankaaDoorRgW6
namespace Go.Rv
open Go.Proofs
set_option maxRecDepth 100000
set_option maxHeartbeats 4000000
set_option linter.unusedVariables false
abbrev l5_PrintSets_q (r : Bool) : Exit → St → Prop := retS Tryd.prog Tryd.f7 (fun y t => y = (.bool r) ∧ t = [.tab 1 pow10V, .ro 2 deBruijnD, .ro 3 deBruijn32D])
abbrev l5_PrintSets_qs111 (r : Bool) : Exit → St → Prop := thenS (fun s' => T Tryd.prog 82 (Code.at [1, 1, 1] (codeOf Tryd.f7)) s' ((l5_PrintSets_q r))) ((l5_PrintSets_q r))
theorem l5_PrintSets_j0_T {r : Bool} (K : Nat) (a : Bool) (h : l5_PrintSets_j0 K a = some r) : T Tryd.prog 82 (Code.at [1, 1, 0, 1, 0, 1] (codeOf Tryd.f7)) ⟨[(4, .bool a)], [.tab 1 pow10V, .ro 2 deBruijnD, .ro 3 deBruijn32D]⟩ (l5_PrintSets_qs111 r) := by
 unfold l5_PrintSets_j0 at h
 refine T.ret (thenS_ret ?_)
 exact Fin.doneK (.cons _ _ _ _ (.tmp 4 _ rfl) .nil) (.cons 0 rfl (.cons 0 rfl (.cons 0 rfl (.nil _)))) (by cases h; exact ⟨rfl, rfl⟩)
theorem l5_PrintSets_T (K : Nat) {x0 : Arr4} {x1 : Int} {r : Bool} (h : l5_PrintSets K x0 x1 = some r) : CallR Tryd.prog 7 [.agg (Arr4.dc .u64 x0), .int .u8 x1] [.tab 1 pow10V, .ro 2 deBruijnD, .ro 3 deBruijn32D] (.bool r) := by
 refine CallT.intro Tryd.func7 rfl (nb rfl) ?_
 show T Tryd.prog 82 (Code.at [] (codeOf Tryd.f7)) ⟨paramSlots 0 [.agg (Arr4.dc .u64 x0), .int .u8 x1], [.tab 1 pow10V, .ro 2 deBruijnD, .ro 3 deBruijn32D]⟩ (l5_PrintSets_q r)
 unfold l5_PrintSets at h
 refine T.seq (T.rL ?_)
 refine sp rfl (OpT.boxAgg rfl (dk rfl) rfl (fun ap => ?_))
 refine aw rfl ?_
 refine TL'.nil (tN (T.seq (T.rL ?_)))
 obtain ⟨aq, y, h⟩ := bind_some h
 refine sp rfl (OpT.callRoA rfl (dk rfl) Tryd.func11 rfl rfl Args.nil (.tab 1 rfl (.cons 2 rfl (.cons 3 rfl (.nil)))) (l5_shown_T K y) ?_)
 refine aw rfl ?_
 refine TL'.nil (tN ?_)
 refine T.seq ?_
 refine T.seq (T.rL ?_)
 refine sp rfl (OpT.lBAgg (i := 0) (l := (Arr4.dc .u64 x0)) rfl (dk rfl) ul25 rfl i25 rfl rfl rfl rfl ?_)
 refine sp rfl (OpT.build (l := (Arr4.dc .u64 (Arr4.mk 0 0 0 0))) rfl (dk rfl) (built_arr ul25 i25 i23) (all1 rfl) rfl rfl ?_)
 refine sp rfl (OpT.intsEql (k := .u64) (xs := [x0.a0, x0.a1, x0.a2, x0.a3]) (ys := [(Arr4.mk 0 0 0 0).a0, (Arr4.mk 0 0 0 0).a1, (Arr4.mk 0 0 0 0).a2, (Arr4.mk 0 0 0 0).a3]) rfl (dk rfl) ul25 ul23 i23 Tryd.eqGuardType25 rfl rfl rfl rfl rfl rfl (Arr4.same_eq x0 (Arr4.mk 0 0 0 0)) ?_)
 refine TL'.nil (tN ?_)
 rcases bif_some h with ⟨u, h⟩ | ⟨u, h⟩
 refine T.condT rfl u ?_
 refine T.seq (T.rL ?_)
 refine mw rfl ?_
 refine mw rfl ?_
 rcases bif_some h with ⟨g, h⟩ | ⟨g, h⟩
 refine TL'.step (.on rfl rfl rfl g) (OpT.lBAgg (i := 0) (l := (Arr4.dc .u64 x0)) rfl (dk rfl) ul25 rfl i25 rfl rfl rfl rfl ?_)
 obtain ⟨aa, ab, h⟩ := bind_some h
 refine TL'.step (.on rfl rfl rfl g) (OpT.callRoA rfl (dk rfl) Tryd.func14 rfl rfl (Args.cons rfl Args.nil) (.cons 2 rfl (.cons 3 rfl (.nil))) (print_Set_T K ab) ?_)
 refine TL'.step (.on rfl rfl rfl g) (OpT.str_eql rfl (dk rfl) rfl rfl ?_)
 refine sp rfl (OpT.pickT rfl (dk rfl) rfl g rfl ?_)
 refine aw rfl ?_
 refine TL'.nil (tN ?_)
 refine T.by_turn ?_ (l5_PrintSets_j0_T K (aa.toList == (⟨#[91, 93]⟩ : ByteArray).toList) h)
 exact Turn.rp (.cons rfl (.nil _)) (.c (.s .z) (.c (.s .z) (.c (.s .z) (.n _))))
 refine TL'.pU (.off _ _ _ _ rfl rfl rfl g) (dk rfl) ?_
 refine TL'.pU (.off _ _ _ _ rfl rfl rfl g) (dk rfl) ?_
 refine TL'.pU (.off _ _ _ _ rfl rfl rfl g) (dk rfl) ?_
 refine sp rfl (OpT.pickF rfl (dk rfl) rfl g rfl ?_)
 refine aw rfl ?_
 refine TL'.nil (tN ?_)
 refine T.by_turn ?_ (l5_PrintSets_j0_T K false h)
 exact Turn.rp (.cons rfl (.nil _)) (.c (.s .z) (.c (.s .z) (.c (.s .z) (.n _))))
 refine T.condF rfl u ?_
 refine T.skip (tN ?_)
 refine T.seq (T.rL ?_)
 refine sp rfl (OpT.lBAgg (i := 0) (l := (Arr4.dc .u64 x0)) rfl (dk rfl) ul25 rfl i25 rfl rfl rfl rfl ?_)
 refine sp rfl (OpT.thenTurn (OpT.build (l := [.int .u8 (2 : Int), .int .u64 x0.a0, .int .u64 x0.a1, .int .u64 x0.a2, .int .u64 x0.a3, .ex (.slice none 0 0), .int .i64 (0 : Int), .int .i64 (0 : Int), .str (⟨#[]⟩ : ByteArray)]) rfl (dk rfl) (built_struct (pl := [(0, 1), (1, 4), (5, 1), (6, 1), (7, 1), (8, 1)]) ul42 i42 rfl) (all1 rfl) rfl rfl rfl) (Turn.weakSlotP 26 (l := [.int .u8 (2 : Int), .int .u64 x0.a0, .int .u64 x0.a1, .int .u64 x0.a2, .int .u64 x0.a3, .ex (.slice none 0 0), .int .i64 (0 : Int), .int .i64 (0 : Int), .str (⟨#[]⟩ : ByteArray)]) (l' := [.int .u8 (2 : Int), .int .u64 x0.a0, .int .u64 x0.a1, .int .u64 x0.a2, .int .u64 x0.a3, .sl false 1 (([] : List Int).map (cI .i64)), .int .i64 (0 : Int), .int .i64 (0 : Int), .str (⟨#[]⟩ : ByteArray)]) (.cons (.same _) (.cons (.same _) (.cons (.same _) (.cons (.same _) (.cons (.same _) (.cons (.nil _ _) (.cons (.same _) (.cons (.same _) (.cons (.same _) (.refl _))))))))))) ?_)
 refine sp rfl (OpT.buildSlice (elems := ([(aNd.mk (2 : Int) x0 [] (0 : Int) (0 : Int) (⟨#[]⟩ : ByteArray))] : List aNd).map c_aNd) rfl (dk rfl) ul22 i42 (by decide) rfl (all1 rfl) rfl rfl rfl (lenAll rfl) (by decide) ?_)
 refine aw rfl ?_
 refine TL'.nil (tN (T.seq (T.rL ?_)))
 refine mw rfl ?_
 refine sp rfl (OpT.buildSlice (elems := ([x1] : List Int).map (cI .u8)) rfl (dk rfl) ul32 i5 (by decide) rfl (all1 rfl) rfl rfl rfl (lenAll rfl) (by decide) ?_)
 obtain ⟨d, ac, h⟩ := bind_some h
 refine sp rfl (OpT.callPA rfl (dk rfl) Tryd.func19 rfl rfl (Args.cons rfl Args.nil) (CallR.nil (r1_Of_T K (flx0 := true) ac)) ?_)
 refine sp rfl (OpT.thenTurn (OpT.build (l := [.int .u8 (2 : Int), .int .u64 d.a0, .int .u64 d.a1, .int .u64 d.a2, .int .u64 d.a3, .ex (.slice none 0 0), .int .i64 (0 : Int), .int .i64 (0 : Int), .str (⟨#[]⟩ : ByteArray)]) rfl (dk rfl) (built_struct (pl := [(0, 1), (1, 4), (5, 1), (6, 1), (7, 1), (8, 1)]) ul42 i42 rfl) (all1 rfl) rfl rfl rfl) (Turn.weakSlotP 31 (l := [.int .u8 (2 : Int), .int .u64 d.a0, .int .u64 d.a1, .int .u64 d.a2, .int .u64 d.a3, .ex (.slice none 0 0), .int .i64 (0 : Int), .int .i64 (0 : Int), .str (⟨#[]⟩ : ByteArray)]) (l' := [.int .u8 (2 : Int), .int .u64 d.a0, .int .u64 d.a1, .int .u64 d.a2, .int .u64 d.a3, .sl false 1 (([] : List Int).map (cI .i64)), .int .i64 (0 : Int), .int .i64 (0 : Int), .str (⟨#[]⟩ : ByteArray)]) (.cons (.same _) (.cons (.same _) (.cons (.same _) (.cons (.same _) (.cons (.same _) (.cons (.nil _ _) (.cons (.same _) (.cons (.same _) (.cons (.same _) (.refl _))))))))))) ?_)
 refine sp rfl (OpT.buildSlice (elems := ([(aNd.mk (2 : Int) d [] (0 : Int) (0 : Int) (⟨#[]⟩ : ByteArray))] : List aNd).map c_aNd) rfl (dk rfl) ul22 i42 (by decide) rfl (all1 rfl) rfl rfl rfl (lenAll rfl) (by decide) ?_)
 refine aw rfl ?_
 refine TL'.nil (tN (T.seq (T.rL ?_)))
 refine mw rfl ?_
 obtain ⟨au, w, h⟩ := bind_some h
 refine sp rfl (OpT.callRoA rfl (dk rfl) Tryd.func12 rfl rfl (Args.cons rfl Args.nil) (.cons 2 rfl (.cons 3 rfl (.nil))) (print_Byte_T K w) ?_)
 obtain ⟨av, ad, h⟩ := bind_some h
 refine sp rfl (OpT.callPA rfl (dk rfl) Tryd.func17 rfl rfl (Args.cons rfl Args.nil) (CallR.nil (sy_Parse_T K ad)) ?_)
 refine mw rfl ?_
 refine sp rfl (OpT.extract rfl (dk rfl) rfl rfl ?_)
 refine sp rfl (OpT.extract rfl (dk rfl) rfl rfl ?_)
 refine sp rfl (OpT.extract rfl (dk rfl) rfl rfl ?_)
 refine aw rfl ?_
 refine aw rfl ?_
 refine aw rfl ?_
 refine TL'.nil (tN (T.seq (T.rL ?_)))
 refine sp rfl (OpT.lBAgg (i := 0) (l := (Arr4.dc .u64 x0)) rfl (dk rfl) ul25 rfl i25 rfl rfl rfl rfl ?_)
 obtain ⟨ay, af, h⟩ := bind_some h
 refine sp rfl (OpT.callRoA rfl (dk rfl) Tryd.func14 rfl rfl (Args.cons rfl Args.nil) (.cons 2 rfl (.cons 3 rfl (.nil))) (print_Set_T K af) ?_)
 refine aw rfl ?_
 refine TL'.nil (tN (T.seq (T.rL ?_)))
 refine mw rfl ?_
 obtain ⟨az, ag, h⟩ := bind_some h
 refine sp rfl (OpT.callPA rfl (dk rfl) Tryd.func17 rfl rfl (Args.cons rfl Args.nil) (CallR.nil (sy_Parse_T K ag)) ?_)
 refine mw rfl ?_
 refine sp rfl (OpT.extract rfl (dk rfl) rfl rfl ?_)
 refine sp rfl (OpT.extract rfl (dk rfl) rfl rfl ?_)
 refine sp rfl (OpT.extract rfl (dk rfl) rfl rfl ?_)
 refine aw rfl ?_
 refine aw rfl ?_
 refine aw rfl ?_
 refine TL'.nil (tN (T.seq (T.rL ?_)))
 refine mw rfl ?_
 refine mw rfl ?_
 rcases bif_some h with ⟨q, h⟩ | ⟨q, h⟩
 refine TL'.step (.on rfl rfl rfl q) (OpT.move rfl (dk rfl) rfl ?_)
 refine TL'.step (.on rfl rfl rfl q) (OpT.int2 rfl rfl (dk rfl) rfl rfl ?_)
 refine sp rfl (OpT.pickT rfl (dk rfl) rfl q rfl ?_)
 refine mw rfl ?_
 rcases bif_some h with ⟨j, h⟩ | ⟨j, h⟩
 refine TL'.step (.on rfl rfl rfl j) (OpT.move rfl (dk rfl) rfl ?_)
 refine TL'.step (.on rfl rfl rfl j) (OpT.move rfl (dk rfl) rfl ?_)
 obtain ⟨a4, ai, h⟩ := bind_some h
 refine TL'.step (.on rfl rfl rfl j) (OpT.callPA rfl (dk rfl) Tryd.func18 rfl rfl (Args.cons rfl (Args.cons rfl Args.nil)) (CallR.nil (r4_Same_T K (flx0 := false) (flx1 := true) ai)) ?_)
 refine sp rfl (OpT.pickT rfl (dk rfl) rfl j rfl ?_)
 refine mw rfl ?_
 rcases bif_some h with ⟨b, h⟩ | ⟨b, h⟩
 refine TL'.step (.on rfl rfl rfl b) (OpT.move rfl (dk rfl) rfl ?_)
 obtain ⟨aj, al, h⟩ := bind_some h
 refine TL'.step (.on rfl rfl rfl b) (OpT.indexSlM (xs := [(aNd.mk (2 : Int) d [] (0 : Int) (0 : Int) (⟨#[]⟩ : ByteArray))]) (f := c_aNd) (v := aj) rfl (dk rfl) ul22 i42 rfl rfl al ?_)
 refine TL'.step (.on rfl rfl rfl b) (OpT.fieldRef rfl (dk rfl) ul42 rfl i25 (by decide) rfl ?_)
 refine TL'.step (.on rfl rfl rfl b) (OpT.loadRefAgg rfl (dk rfl) ul25 rfl i25 rfl (nb rfl) ?_)
 obtain ⟨a5, am, h⟩ := bind_some h
 refine TL'.step (.on rfl rfl rfl b) (OpT.callRoA rfl (dk rfl) Tryd.func14 rfl rfl (Args.cons rfl Args.nil) (.cons 2 rfl (.cons 3 rfl (.nil))) (print_Set_T K am) ?_)
 refine TL'.step (.on rfl rfl rfl b) (OpT.move rfl (dk rfl) rfl ?_)
 refine TL'.step (.on rfl rfl rfl b) (OpT.callRoA rfl (dk rfl) Tryd.func12 rfl rfl (Args.cons rfl Args.nil) (.cons 2 rfl (.cons 3 rfl (.nil))) (print_Byte_T K w) ?_)
 refine TL'.step (.on rfl rfl rfl b) (OpT.str_eql rfl (dk rfl) rfl rfl ?_)
 refine sp rfl (OpT.pickT rfl (dk rfl) rfl b rfl ?_)
 refine mw rfl ?_
 rcases bif_some h with ⟨a, h⟩ | ⟨a, h⟩
 refine TL'.step (.on rfl rfl rfl a) (OpT.move rfl (dk rfl) rfl ?_)
 refine TL'.step (.on rfl rfl rfl a) (OpT.int2 rfl rfl (dk rfl) rfl rfl ?_)
 refine TL'.step (.on rfl rfl rfl a) (OpT.move rfl (dk rfl) rfl ?_)
 rcases bif_some h with ⟨m, h⟩ | ⟨m, h⟩
 refine TL'.step (.on rfl rfl rfl m) (OpT.move rfl (dk rfl) rfl ?_)
 refine TL'.step (.on rfl rfl rfl m) (OpT.move rfl (dk rfl) rfl ?_)
 obtain ⟨a6, an, h⟩ := bind_some h
 refine TL'.step (.on rfl rfl rfl m) (OpT.callPA rfl (dk rfl) Tryd.func18 rfl rfl (Args.cons rfl (Args.cons rfl Args.nil)) (CallR.nil (r4_Same_T K (flx0 := false) (flx1 := true) an)) ?_)
 refine TL'.step (.on rfl rfl rfl a) (OpT.pickT rfl (dk rfl) rfl m rfl ?_)
 refine TL'.step (.on rfl rfl rfl a) (OpT.move rfl (dk rfl) rfl ?_)
 rcases bif_some h with ⟨p, h⟩ | ⟨p, h⟩
 refine TL'.pU (.off _ _ _ _ rfl rfl rfl p) (dk rfl) ?_
 refine TL'.pU (.off _ _ _ _ rfl rfl rfl p) (dk rfl) ?_
 refine TL'.pU (.off _ _ _ _ rfl rfl rfl p) (dk rfl) ?_
 refine TL'.step (.on rfl rfl rfl a) (OpT.pickT rfl (dk rfl) rfl p rfl ?_)
 refine sp rfl (OpT.pickT rfl (dk rfl) rfl a rfl ?_)
 refine aw rfl ?_
 refine TL'.nil (tN ?_)
 refine T.ret ?_
 exact Fin.doneK (.cons _ _ _ _ (.tmp 4 _ rfl) .nil) (.cons 1 rfl (.cons 1 rfl (.cons 1 rfl (.nil _)))) (by cases h; exact ⟨rfl, rfl⟩)
 refine TL'.step (.on rfl rfl rfl p) (OpT.move rfl (dk rfl) rfl ?_)
 refine TL'.step (.on rfl rfl rfl p) (OpT.lenStr rfl (dk rfl) ul9 rfl ?_)
 refine TL'.step (.on rfl rfl rfl p) (OpT.int2 rfl rfl (dk rfl) rfl rfl ?_)
 refine TL'.step (.on rfl rfl rfl a) (OpT.pickF rfl (dk rfl) rfl p rfl ?_)
 refine sp rfl (OpT.pickT rfl (dk rfl) rfl a rfl ?_)
 refine aw rfl ?_
 refine TL'.nil (tN ?_)
 refine T.ret ?_
 exact Fin.doneK (.cons _ _ _ _ (.tmp 4 _ rfl) .nil) (.cons 1 rfl (.cons 1 rfl (.cons 1 rfl (.nil _)))) (by cases h; exact ⟨rfl, rfl⟩)
 refine TL'.pU (.off _ _ _ _ rfl rfl rfl m) (dk rfl) ?_
 refine TL'.pU (.off _ _ _ _ rfl rfl rfl m) (dk rfl) ?_
 refine TL'.pU (.off _ _ _ _ rfl rfl rfl m) (dk rfl) ?_
 refine TL'.step (.on rfl rfl rfl a) (OpT.pickF rfl (dk rfl) rfl m rfl ?_)
 refine TL'.step (.on rfl rfl rfl a) (OpT.move rfl (dk rfl) rfl ?_)
 refine TL'.step (.on rfl rfl rfl rfl) (OpT.move rfl (dk rfl) rfl ?_)
 refine TL'.step (.on rfl rfl rfl rfl) (OpT.lenStr rfl (dk rfl) ul9 rfl ?_)
 refine TL'.step (.on rfl rfl rfl rfl) (OpT.int2 rfl rfl (dk rfl) rfl rfl ?_)
 refine TL'.step (.on rfl rfl rfl a) (OpT.pickF rfl (dk rfl) rfl rfl rfl ?_)
 refine sp rfl (OpT.pickT rfl (dk rfl) rfl a rfl ?_)
 refine aw rfl ?_
 refine TL'.nil (tN ?_)
 refine T.ret ?_
 exact Fin.doneK (.cons _ _ _ _ (.tmp 4 _ rfl) .nil) (.cons 1 rfl (.cons 1 rfl (.cons 1 rfl (.nil _)))) (by cases h; exact ⟨rfl, rfl⟩)
 refine TL'.pU (.off _ _ _ _ rfl rfl rfl a) (dk rfl) ?_
 refine TL'.pU (.off _ _ _ _ rfl rfl rfl a) (dk rfl) ?_
 refine TL'.pU (.off _ _ _ _ rfl rfl rfl a) (dk rfl) ?_
 refine TL'.pU (.gone _ _ _ rfl rfl rfl) (dk rfl) ?_
 refine TL'.pU (.gone _ _ _ rfl rfl rfl) (dk rfl) ?_
 refine TL'.pU (.gone _ _ _ rfl rfl rfl) (dk rfl) ?_
 refine TL'.pU (.off _ _ _ _ rfl rfl rfl a) (dk rfl) ?_
 refine TL'.pU (.off _ _ _ _ rfl rfl rfl a) (dk rfl) ?_
 refine TL'.pU (.gone _ _ _ rfl rfl rfl) (dk rfl) ?_
 refine TL'.pU (.gone _ _ _ rfl rfl rfl) (dk rfl) ?_
 refine TL'.pU (.gone _ _ _ rfl rfl rfl) (dk rfl) ?_
 refine TL'.pU (.off _ _ _ _ rfl rfl rfl a) (dk rfl) ?_
 refine sp rfl (OpT.pickF rfl (dk rfl) rfl a rfl ?_)
 refine aw rfl ?_
 refine TL'.nil (tN ?_)
 refine T.ret ?_
 exact Fin.doneK (.cons _ _ _ _ (.tmp 4 _ rfl) .nil) (.cons 1 rfl (.cons 1 rfl (.cons 1 rfl (.nil _)))) (by cases h; exact ⟨rfl, rfl⟩)
 refine TL'.pU (.off _ _ _ _ rfl rfl rfl b) (dk rfl) ?_
 refine TL'.pU (.off _ _ _ _ rfl rfl rfl b) (dk rfl) ?_
 refine TL'.pU (.off _ _ _ _ rfl rfl rfl b) (dk rfl) ?_
 refine TL'.pU (.off _ _ _ _ rfl rfl rfl b) (dk rfl) ?_
 refine TL'.pU (.off _ _ _ _ rfl rfl rfl b) (dk rfl) ?_
 refine TL'.pU (.off _ _ _ _ rfl rfl rfl b) (dk rfl) ?_
 refine TL'.pU (.off _ _ _ _ rfl rfl rfl b) (dk rfl) ?_
 refine TL'.pU (.off _ _ _ _ rfl rfl rfl b) (dk rfl) ?_
 refine sp rfl (OpT.pickF rfl (dk rfl) rfl b rfl ?_)
 refine mw rfl ?_
 refine TL'.pU (.off _ _ _ _ rfl rfl rfl rfl) (dk rfl) ?_
 refine TL'.pU (.off _ _ _ _ rfl rfl rfl rfl) (dk rfl) ?_
 refine TL'.pU (.off _ _ _ _ rfl rfl rfl rfl) (dk rfl) ?_
 refine TL'.pU (.gone _ _ _ rfl rfl rfl) (dk rfl) ?_
 refine TL'.pU (.gone _ _ _ rfl rfl rfl) (dk rfl) ?_
 refine TL'.pU (.gone _ _ _ rfl rfl rfl) (dk rfl) ?_
 refine TL'.pU (.off _ _ _ _ rfl rfl rfl rfl) (dk rfl) ?_
 refine TL'.pU (.off _ _ _ _ rfl rfl rfl rfl) (dk rfl) ?_
 refine TL'.pU (.gone _ _ _ rfl rfl rfl) (dk rfl) ?_
 refine TL'.pU (.gone _ _ _ rfl rfl rfl) (dk rfl) ?_
 refine TL'.pU (.gone _ _ _ rfl rfl rfl) (dk rfl) ?_
 refine TL'.pU (.off _ _ _ _ rfl rfl rfl rfl) (dk rfl) ?_
 refine sp rfl (OpT.pickF rfl (dk rfl) rfl rfl rfl ?_)
 refine aw rfl ?_
 refine TL'.nil (tN ?_)
 refine T.ret ?_
 exact Fin.doneK (.cons _ _ _ _ (.tmp 4 _ rfl) .nil) (.cons 1 rfl (.cons 1 rfl (.cons 1 rfl (.nil _)))) (by cases h; exact ⟨rfl, rfl⟩)
 refine TL'.pU (.off _ _ _ _ rfl rfl rfl j) (dk rfl) ?_
 refine TL'.pU (.off _ _ _ _ rfl rfl rfl j) (dk rfl) ?_
 refine TL'.pU (.off _ _ _ _ rfl rfl rfl j) (dk rfl) ?_
 refine sp rfl (OpT.pickF rfl (dk rfl) rfl j rfl ?_)
 refine mw rfl ?_
 refine TL'.pU (.off _ _ _ _ rfl rfl rfl rfl) (dk rfl) ?_
 refine TL'.pU (.off _ _ _ _ rfl rfl rfl rfl) (dk rfl) ?_
 refine TL'.pU (.off _ _ _ _ rfl rfl rfl rfl) (dk rfl) ?_
 refine TL'.pU (.off _ _ _ _ rfl rfl rfl rfl) (dk rfl) ?_
 refine TL'.pU (.off _ _ _ _ rfl rfl rfl rfl) (dk rfl) ?_
 refine TL'.pU (.off _ _ _ _ rfl rfl rfl rfl) (dk rfl) ?_
 refine TL'.pU (.off _ _ _ _ rfl rfl rfl rfl) (dk rfl) ?_
 refine TL'.pU (.off _ _ _ _ rfl rfl rfl rfl) (dk rfl) ?_
 refine sp rfl (OpT.pickF rfl (dk rfl) rfl rfl rfl ?_)
 refine mw rfl ?_
 refine TL'.pU (.off _ _ _ _ rfl rfl rfl rfl) (dk rfl) ?_
 refine TL'.pU (.off _ _ _ _ rfl rfl rfl rfl) (dk rfl) ?_
 refine TL'.pU (.off _ _ _ _ rfl rfl rfl rfl) (dk rfl) ?_
 refine TL'.pU (.gone _ _ _ rfl rfl rfl) (dk rfl) ?_
 refine TL'.pU (.gone _ _ _ rfl rfl rfl) (dk rfl) ?_
 refine TL'.pU (.gone _ _ _ rfl rfl rfl) (dk rfl) ?_
 refine TL'.pU (.off _ _ _ _ rfl rfl rfl rfl) (dk rfl) ?_
 refine TL'.pU (.off _ _ _ _ rfl rfl rfl rfl) (dk rfl) ?_
 refine TL'.pU (.gone _ _ _ rfl rfl rfl) (dk rfl) ?_
 refine TL'.pU (.gone _ _ _ rfl rfl rfl) (dk rfl) ?_
 refine TL'.pU (.gone _ _ _ rfl rfl rfl) (dk rfl) ?_
 refine TL'.pU (.off _ _ _ _ rfl rfl rfl rfl) (dk rfl) ?_
 refine sp rfl (OpT.pickF rfl (dk rfl) rfl rfl rfl ?_)
 refine aw rfl ?_
 refine TL'.nil (tN ?_)
 refine T.ret ?_
 exact Fin.doneK (.cons _ _ _ _ (.tmp 4 _ rfl) .nil) (.cons 1 rfl (.cons 1 rfl (.cons 1 rfl (.nil _)))) (by cases h; exact ⟨rfl, rfl⟩)
 refine TL'.pU (.off _ _ _ _ rfl rfl rfl q) (dk rfl) ?_
 refine TL'.pU (.off _ _ _ _ rfl rfl rfl q) (dk rfl) ?_
 refine sp rfl (OpT.pickF rfl (dk rfl) rfl q rfl ?_)
 refine mw rfl ?_
 refine TL'.pU (.off _ _ _ _ rfl rfl rfl rfl) (dk rfl) ?_
 refine TL'.pU (.off _ _ _ _ rfl rfl rfl rfl) (dk rfl) ?_
 refine TL'.pU (.off _ _ _ _ rfl rfl rfl rfl) (dk rfl) ?_
 refine sp rfl (OpT.pickF rfl (dk rfl) rfl rfl rfl ?_)
 refine mw rfl ?_
 refine TL'.pU (.off _ _ _ _ rfl rfl rfl rfl) (dk rfl) ?_
 refine TL'.pU (.off _ _ _ _ rfl rfl rfl rfl) (dk rfl) ?_
 refine TL'.pU (.off _ _ _ _ rfl rfl rfl rfl) (dk rfl) ?_
 refine TL'.pU (.off _ _ _ _ rfl rfl rfl rfl) (dk rfl) ?_
 refine TL'.pU (.off _ _ _ _ rfl rfl rfl rfl) (dk rfl) ?_
 refine TL'.pU (.off _ _ _ _ rfl rfl rfl rfl) (dk rfl) ?_
 refine TL'.pU (.off _ _ _ _ rfl rfl rfl rfl) (dk rfl) ?_
 refine TL'.pU (.off _ _ _ _ rfl rfl rfl rfl) (dk rfl) ?_
 refine sp rfl (OpT.pickF rfl (dk rfl) rfl rfl rfl ?_)
 refine mw rfl ?_
 refine TL'.pU (.off _ _ _ _ rfl rfl rfl rfl) (dk rfl) ?_
 refine TL'.pU (.off _ _ _ _ rfl rfl rfl rfl) (dk rfl) ?_
 refine TL'.pU (.off _ _ _ _ rfl rfl rfl rfl) (dk rfl) ?_
 refine TL'.pU (.gone _ _ _ rfl rfl rfl) (dk rfl) ?_
 refine TL'.pU (.gone _ _ _ rfl rfl rfl) (dk rfl) ?_
 refine TL'.pU (.gone _ _ _ rfl rfl rfl) (dk rfl) ?_
 refine TL'.pU (.off _ _ _ _ rfl rfl rfl rfl) (dk rfl) ?_
 refine TL'.pU (.off _ _ _ _ rfl rfl rfl rfl) (dk rfl) ?_
 refine TL'.pU (.gone _ _ _ rfl rfl rfl) (dk rfl) ?_
 refine TL'.pU (.gone _ _ _ rfl rfl rfl) (dk rfl) ?_
 refine TL'.pU (.gone _ _ _ rfl rfl rfl) (dk rfl) ?_
 refine TL'.pU (.off _ _ _ _ rfl rfl rfl rfl) (dk rfl) ?_
 refine sp rfl (OpT.pickF rfl (dk rfl) rfl rfl rfl ?_)
 refine aw rfl ?_
 refine TL'.nil (tN ?_)
 refine T.ret ?_
 exact Fin.doneK (.cons _ _ _ _ (.tmp 4 _ rfl) .nil) (.cons 1 rfl (.cons 1 rfl (.cons 1 rfl (.nil _)))) (by cases h; exact ⟨rfl, rfl⟩)
end Go.Rv

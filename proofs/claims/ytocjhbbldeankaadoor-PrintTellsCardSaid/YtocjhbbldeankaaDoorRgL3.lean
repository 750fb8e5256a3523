/- Each function computes what its plain text says: printed by a program of ours. -/
import Derived.Test.YtocjhbbldeankaaDoorRgW6
namespace Go.Rv
open Go.Proofs
set_option maxRecDepth 100000
set_option maxHeartbeats 4000000
set_option linter.unusedVariables false
abbrev l5_PrintTells_q (r : Bool) : Exit → St → Prop := retS Tryd.prog Tryd.f3 (fun y t => y = (.bool r) ∧ t = [.tab 1 pow10V, .ro 2 deBruijnD, .ro 3 deBruijn32D])
theorem l5_PrintTells_T (K : Nat) {x0 : List aNd} {x1 : Int} {x2 : Arr4} {flx0 : Bool} {r : Bool} (h : l5_PrintTells K x0 x1 x2 = some r) : CallR Tryd.prog 3 [.sl flx0 9 (x0.map c_aNd), .int .u8 x1, .agg (Arr4.dc .u64 x2)] [.tab 1 pow10V, .ro 2 deBruijnD, .ro 3 deBruijn32D] (.bool r) := by
 refine CallT.intro Tryd.func3 rfl (nb rfl) ?_
 show T Tryd.prog 52 (Code.at [] (codeOf Tryd.f3)) ⟨paramSlots 0 [.sl flx0 9 (x0.map c_aNd), .int .u8 x1, .agg (Arr4.dc .u64 x2)], [.tab 1 pow10V, .ro 2 deBruijnD, .ro 3 deBruijn32D]⟩ (l5_PrintTells_q r)
 unfold l5_PrintTells at h
 refine T.seq ?_
 refine T.rL ?_
 refine sp rfl (OpT.boxAgg rfl (dk rfl) rfl (fun b_141 => ?_))
 refine aw rfl ?_
 refine TL'.nil (tN ?_)
 refine T.seq ?_
 refine T.rL ?_
 refine mw rfl ?_
 refine mw rfl ?_
 refine sp rfl (OpT.lenSlM (xs := x0) (f := c_aNd) rfl (dk rfl) ul22 rfl ?_)
 refine sp rfl (OpT.min2 rfl (dk rfl) rfl rfl ?_)
 obtain ⟨g_142, h⟩ := ck_some h
 refine sp rfl (OpT.sliceM (xs := x0) (f := c_aNd) (l := 0) (h := (Int.toNat (if (1100 : Int) < (x0.length : Int) then (1100 : Int) else (x0.length : Int)))) rfl (dk rfl) ul22 i42 rfl (.none _) (.some _ _ _ _ rfl g_142.1) g_142.2.1 g_142.2.2 ?_)
 refine aw rfl ?_
 refine TL'.nil (tN ?_)
 refine T.seq ?_
 refine T.rL ?_
 refine mw rfl ?_
 obtain ⟨v_143, e_144, h⟩ := bind_some h
 refine sp rfl (OpT.callRoA rfl (dk rfl) Tryd.func9 rfl rfl (Args.cons rfl Args.nil) (.tab 1 rfl (.cons 2 rfl (.cons 3 rfl (.nil)))) (pT_T K (flx0 := false) e_144) ?_)
 refine mw rfl ?_
 refine sp rfl (OpT.extract rfl (dk rfl) rfl rfl ?_)
 refine sp rfl (OpT.extract rfl (dk rfl) rfl rfl ?_)
 refine aw rfl ?_
 refine aw rfl ?_
 refine TL'.nil (tN ?_)
 refine T.seq ?_
 refine T.rL ?_
 refine mw rfl ?_
 obtain ⟨v_145, e_146, h⟩ := bind_some h
 refine sp rfl (OpT.callPA rfl (dk rfl) Tryd.func10 rfl rfl (Args.cons rfl Args.nil) (CallR.nil (r5_Tree_T K (flx0 := false) e_146)) ?_)
 refine mw rfl ?_
 refine sp rfl (OpT.extract rfl (dk rfl) rfl rfl ?_)
 refine sp rfl (OpT.extract rfl (dk rfl) rfl rfl ?_)
 refine aw rfl ?_
 refine aw rfl ?_
 refine TL'.nil (tN ?_)
 refine T.seq ?_
 refine DG.start ?_
 obtain ⟨v_162, e_163, h⟩ := bind_some h
 refine DG.step (c := ⟨some 27, .bool v_162, [], [(3, .ro 3 deBruijn32D), (2, .ro 2 deBruijnD), (1, .tab 1 pow10V)], []⟩) (fun t hm => One.step rfl (.free rfl) (OpT.callRoA rfl (dk rfl) Tryd.func11 rfl rfl Args.nil (.tab 1 hm.o2 (.cons 2 hm.o1 (.cons 3 hm.o0 (.nil)))) (l5_shown_T K e_163) rfl)) (Ct.mo rfl rfl) ?_
 refine DG.mv rfl rfl rfl rfl rfl rfl ?_
 rcases bif_some h with ⟨c_164, h⟩ | ⟨c_164, h⟩
 refine DG.step (c := ⟨some 29, .str v_143.1, [(8, .str v_143.1), (28, .bool v_162)], [], []⟩) (fun t hm => One.step rfl (.on rfl rfl hm.s1 c_164) (OpT.move rfl (dk rfl) hm.s0 rfl)) (Ct.mo rfl rfl) ?_
 refine DG.step (c := ⟨some 30, .str v_145.1, [(10, .str v_145.1), (28, .bool v_162)], [], []⟩) (fun t hm => One.step rfl (.on rfl rfl hm.s1 c_164) (OpT.move rfl (dk rfl) hm.s0 rfl)) (Ct.mo rfl rfl) ?_
 refine DG.step (c := ⟨some 31, .bool (v_143.1.toList == v_145.1.toList), [(29, .str v_143.1), (30, .str v_145.1), (28, .bool v_162)], [], []⟩) (fun t hm => One.step rfl (.on rfl rfl hm.s2 c_164) (OpT.str_eql rfl (dk rfl) hm.s0 hm.s1 rfl)) (Ct.mo rfl rfl) ?_
 refine DG.step (c := ⟨some 32, .bool (v_143.1.toList == v_145.1.toList), [(28, .bool v_162), (31, .bool (v_143.1.toList == v_145.1.toList))], [], []⟩) (fun t hm => One.step rfl (.free rfl) (OpT.pickT rfl (dk rfl) hm.s0 c_164 hm.s1 rfl)) (Ct.mo rfl rfl) ?_
 refine DG.mv rfl rfl rfl rfl rfl rfl ?_
 rcases bif_some h with ⟨c_165, h⟩ | ⟨c_165, h⟩
 refine DG.step (c := ⟨some 34, .bool v_143.2, [(9, .bool v_143.2), (33, .bool (v_143.1.toList == v_145.1.toList))], [], []⟩) (fun t hm => One.step rfl (.on rfl rfl hm.s1 c_165) (OpT.move rfl (dk rfl) hm.s0 rfl)) (Ct.mo rfl rfl) ?_
 refine DG.step (c := ⟨some 35, .bool v_145.2, [(11, .bool v_145.2), (33, .bool (v_143.1.toList == v_145.1.toList))], [], []⟩) (fun t hm => One.step rfl (.on rfl rfl hm.s1 c_165) (OpT.move rfl (dk rfl) hm.s0 rfl)) (Ct.mo rfl rfl) ?_
 refine DG.step (c := ⟨some 36, .bool (v_143.2 == v_145.2), [(34, .bool v_143.2), (35, .bool v_145.2), (33, .bool (v_143.1.toList == v_145.1.toList))], [], []⟩) (fun t hm => One.step rfl (.on rfl rfl hm.s2 c_165) (OpT.bool_eql rfl (dk rfl) ul4 hm.s0 hm.s1 rfl)) (Ct.mo rfl rfl) ?_
 refine DG.step (c := ⟨some 37, .bool (v_143.2 == v_145.2), [(33, .bool (v_143.1.toList == v_145.1.toList)), (36, .bool (v_143.2 == v_145.2))], [], []⟩) (fun t hm => One.step rfl (.free rfl) (OpT.pickT rfl (dk rfl) hm.s0 c_165 hm.s1 rfl)) (Ct.mo rfl rfl) ?_
 refine DG.mv rfl rfl rfl rfl rfl rfl ?_
 rcases bif_some h with ⟨c_166, h⟩ | ⟨c_166, h⟩
 refine DG.step (c := ⟨some 39, .int .u8 x1, [(1, .int .u8 x1), (38, .bool (v_143.2 == v_145.2))], [], []⟩) (fun t hm => One.step rfl (.on rfl rfl hm.s1 c_166) (OpT.move rfl (dk rfl) hm.s0 rfl)) (Ct.mo rfl rfl) ?_
 obtain ⟨v_167, e_168, h⟩ := bind_some h
 refine DG.step (c := ⟨some 40, .str v_167, [(39, .int .u8 x1), (38, .bool (v_143.2 == v_145.2))], [(3, .ro 3 deBruijn32D), (2, .ro 2 deBruijnD)], []⟩) (fun t hm => One.step rfl (.on rfl rfl hm.s1 c_166) (OpT.callRoA rfl (dk rfl) Tryd.func12 rfl rfl (Args.cons hm.s0 Args.nil) (.cons 2 hm.o1 (.cons 3 hm.o0 (.nil))) (print_Byte_T K e_168) rfl)) (Ct.mo rfl rfl) ?_
 refine DG.step (c := ⟨some 41, .int .u8 x1, [(1, .int .u8 x1), (38, .bool (v_143.2 == v_145.2))], [], []⟩) (fun t hm => One.step rfl (.on rfl rfl hm.s1 c_166) (OpT.move rfl (dk rfl) hm.s0 rfl)) (Ct.mo rfl rfl) ?_
 obtain ⟨v_169, e_170, h⟩ := bind_some h
 refine DG.step (c := ⟨some 42, .str v_169, [(41, .int .u8 x1), (38, .bool (v_143.2 == v_145.2))], [], []⟩) (fun t hm => One.step rfl (.on rfl rfl hm.s1 c_166) (OpT.callPA rfl (dk rfl) Tryd.func13 rfl rfl (Args.cons hm.s0 Args.nil) (CallR.nil (r5_Byte_T K e_170)) rfl)) (Ct.mo rfl rfl) ?_
 refine DG.step (c := ⟨some 43, .bool (v_167.toList == v_169.toList), [(40, .str v_167), (42, .str v_169), (38, .bool (v_143.2 == v_145.2))], [], []⟩) (fun t hm => One.step rfl (.on rfl rfl hm.s2 c_166) (OpT.str_eql rfl (dk rfl) hm.s0 hm.s1 rfl)) (Ct.mo rfl rfl) ?_
 refine DG.step (c := ⟨some 44, .bool (v_167.toList == v_169.toList), [(38, .bool (v_143.2 == v_145.2)), (43, .bool (v_167.toList == v_169.toList))], [], []⟩) (fun t hm => One.step rfl (.free rfl) (OpT.pickT rfl (dk rfl) hm.s0 c_166 hm.s1 rfl)) (Ct.mo rfl rfl) ?_
 refine DG.mv rfl rfl rfl rfl rfl rfl ?_
 rcases bif_some h with ⟨c_171, h⟩ | ⟨c_171, h⟩
 refine DG.step (c := ⟨some 46, .agg (Arr4.dc .u64 x2), [(5, .ptr b_141 0), (45, .bool (v_167.toList == v_169.toList))], [(0, .box b_141 25 (Arr4.oc .u64 x2))], []⟩) (fun t hm => One.step rfl (.on rfl rfl hm.s1 c_171) (OpT.loadBoxAgg (i := 0) (l := (Arr4.dc .u64 x2)) rfl (dk rfl) ul25 rfl i25 hm.s0 hm.o0 rfl rfl rfl)) (Ct.mo rfl rfl) ?_
 obtain ⟨v_172, e_173, h⟩ := bind_some h
 refine DG.step (c := ⟨some 47, .str v_172, [(46, .agg (Arr4.dc .u64 x2)), (45, .bool (v_167.toList == v_169.toList))], [(3, .ro 3 deBruijn32D), (2, .ro 2 deBruijnD)], []⟩) (fun t hm => One.step rfl (.on rfl rfl hm.s1 c_171) (OpT.callRoA rfl (dk rfl) Tryd.func14 rfl rfl (Args.cons hm.s0 Args.nil) (.cons 2 hm.o1 (.cons 3 hm.o0 (.nil))) (print_Set_T K e_173) rfl)) (Ct.mo rfl rfl) ?_
 refine DG.step (c := ⟨some 48, .agg (Arr4.dc .u64 x2), [(5, .ptr b_141 0), (45, .bool (v_167.toList == v_169.toList))], [(0, .box b_141 25 (Arr4.oc .u64 x2))], []⟩) (fun t hm => One.step rfl (.on rfl rfl hm.s1 c_171) (OpT.loadBoxAgg (i := 0) (l := (Arr4.dc .u64 x2)) rfl (dk rfl) ul25 rfl i25 hm.s0 hm.o0 rfl rfl rfl)) (Ct.mo rfl rfl) ?_
 obtain ⟨v_174, e_175, h⟩ := bind_some h
 refine DG.step (c := ⟨some 49, .str v_174, [(48, .agg (Arr4.dc .u64 x2)), (45, .bool (v_167.toList == v_169.toList))], [], []⟩) (fun t hm => One.step rfl (.on rfl rfl hm.s1 c_171) (OpT.callPA rfl (dk rfl) Tryd.func15 rfl rfl (Args.cons hm.s0 Args.nil) (CallR.nil (r5_Set_T K e_175)) rfl)) (Ct.mo rfl rfl) ?_
 refine DG.step (c := ⟨some 50, .bool (v_172.toList == v_174.toList), [(47, .str v_172), (49, .str v_174), (45, .bool (v_167.toList == v_169.toList))], [], []⟩) (fun t hm => One.step rfl (.on rfl rfl hm.s2 c_171) (OpT.str_eql rfl (dk rfl) hm.s0 hm.s1 rfl)) (Ct.mo rfl rfl) ?_
 refine DG.step (c := ⟨some 51, .bool (v_172.toList == v_174.toList), [(45, .bool (v_167.toList == v_169.toList)), (50, .bool (v_172.toList == v_174.toList))], [], []⟩) (fun t hm => One.step rfl (.free rfl) (OpT.pickT rfl (dk rfl) hm.s0 c_171 hm.s1 rfl)) (Ct.mo rfl rfl) ?_
 refine DG.step (c := ⟨some 6, .bool (v_172.toList == v_174.toList), [(51, .bool (v_172.toList == v_174.toList))], [], []⟩) (fun t hm => One.step rfl (.free rfl) (OpT.assign rfl (dk rfl) hm.s0 rfl)) (Ct.mo rfl rfl) ?_
 refine DG.fin (s1 := ⟨[(6, .bool (v_172.toList == v_174.toList))], [.box b_141 25 (Arr4.oc .u64 x2), .tab 1 pow10V, .ro 2 deBruijnD, .ro 3 deBruijn32D]⟩) (ms := [0, 1, 3, 3, 15, 31, 63, 127, 127, 511, 1023, 2047, 4095, 8191, 4095, 32767, 65535, 131071, 262143, 524287, 1048575, 524287, 4194303, 8388607, 16777215, 33554431]) TrydMixed rfl (by kernel_rfl) (by kernel_rfl) (by kernel_rfl) (.cons rfl (.nil _)) rfl (fun u hu => (tN (T.by_turn hu ?_)))
 refine T.ret ?_
 exact Fin.doneK (.cons _ _ _ _ (.tmp 6 _ rfl) .nil) (.cons 1 rfl (.cons 1 rfl (.cons 1 rfl (.nil _)))) (by cases h; exact ⟨rfl, rfl⟩)
 refine DG.off c_171 rfl rfl rfl rfl rfl rfl ?_
 refine DG.off c_171 rfl rfl rfl rfl rfl rfl ?_
 refine DG.off c_171 rfl rfl rfl rfl rfl rfl ?_
 refine DG.off c_171 rfl rfl rfl rfl rfl rfl ?_
 refine DG.off c_171 rfl rfl rfl rfl rfl rfl ?_
 refine DG.step (c := ⟨some 51, .bool false, [(45, .bool (v_167.toList == v_169.toList))], [], []⟩) (fun t hm => One.step rfl (.free rfl) (OpT.pickF rfl (dk rfl) hm.s0 c_171 rfl rfl)) (Ct.mo rfl rfl) ?_
 refine DG.step (c := ⟨some 6, .bool false, [(51, .bool false)], [], []⟩) (fun t hm => One.step rfl (.free rfl) (OpT.assign rfl (dk rfl) hm.s0 rfl)) (Ct.mo rfl rfl) ?_
 refine DG.fin (s1 := ⟨[(6, .bool false)], [.box b_141 25 (Arr4.oc .u64 x2), .tab 1 pow10V, .ro 2 deBruijnD, .ro 3 deBruijn32D]⟩) (ms := [0, 1, 3, 3, 15, 31, 63, 127, 127, 511, 1023, 2047, 4095, 8191, 4095, 32767, 65535, 131071, 262143, 524287, 1048575, 524287, 4194303, 8388607, 16777215, 33554431]) TrydMixed rfl (by kernel_rfl) (by kernel_rfl) (by kernel_rfl) (.cons rfl (.nil _)) rfl (fun u hu => (tN (T.by_turn hu ?_)))
 refine T.ret ?_
 exact Fin.doneK (.cons _ _ _ _ (.tmp 6 _ rfl) .nil) (.cons 1 rfl (.cons 1 rfl (.cons 1 rfl (.nil _)))) (by cases h; exact ⟨rfl, rfl⟩)
 refine DG.off c_166 rfl rfl rfl rfl rfl rfl ?_
 refine DG.off c_166 rfl rfl rfl rfl rfl rfl ?_
 refine DG.off c_166 rfl rfl rfl rfl rfl rfl ?_
 refine DG.off c_166 rfl rfl rfl rfl rfl rfl ?_
 refine DG.off c_166 rfl rfl rfl rfl rfl rfl ?_
 refine DG.step (c := ⟨some 44, .bool false, [(38, .bool (v_143.2 == v_145.2))], [], []⟩) (fun t hm => One.step rfl (.free rfl) (OpT.pickF rfl (dk rfl) hm.s0 c_166 rfl rfl)) (Ct.mo rfl rfl) ?_
 refine DG.mv rfl rfl rfl rfl rfl rfl ?_
 refine DG.off rfl rfl rfl rfl rfl rfl rfl ?_
 refine DG.off rfl rfl rfl rfl rfl rfl rfl ?_
 refine DG.off rfl rfl rfl rfl rfl rfl rfl ?_
 refine DG.off rfl rfl rfl rfl rfl rfl rfl ?_
 refine DG.off rfl rfl rfl rfl rfl rfl rfl ?_
 refine DG.step (c := ⟨some 51, .bool false, [(45, .bool false)], [], []⟩) (fun t hm => One.step rfl (.free rfl) (OpT.pickF rfl (dk rfl) hm.s0 rfl rfl rfl)) (Ct.mo rfl rfl) ?_
 refine DG.step (c := ⟨some 6, .bool false, [(51, .bool false)], [], []⟩) (fun t hm => One.step rfl (.free rfl) (OpT.assign rfl (dk rfl) hm.s0 rfl)) (Ct.mo rfl rfl) ?_
 refine DG.fin (s1 := ⟨[(6, .bool false)], [.box b_141 25 (Arr4.oc .u64 x2), .tab 1 pow10V, .ro 2 deBruijnD, .ro 3 deBruijn32D]⟩) (ms := [0, 1, 3, 3, 15, 31, 63, 127, 127, 511, 1023, 2047, 4095, 8191, 4095, 32767, 65535, 131071, 262143, 524287, 1048575, 524287, 4194303, 8388607, 16777215, 33554431]) TrydMixed rfl (by kernel_rfl) (by kernel_rfl) (by kernel_rfl) (.cons rfl (.nil _)) rfl (fun u hu => (tN (T.by_turn hu ?_)))
 refine T.ret ?_
 exact Fin.doneK (.cons _ _ _ _ (.tmp 6 _ rfl) .nil) (.cons 1 rfl (.cons 1 rfl (.cons 1 rfl (.nil _)))) (by cases h; exact ⟨rfl, rfl⟩)
 refine DG.off c_165 rfl rfl rfl rfl rfl rfl ?_
 refine DG.off c_165 rfl rfl rfl rfl rfl rfl ?_
 refine DG.off c_165 rfl rfl rfl rfl rfl rfl ?_
 refine DG.step (c := ⟨some 37, .bool false, [(33, .bool (v_143.1.toList == v_145.1.toList))], [], []⟩) (fun t hm => One.step rfl (.free rfl) (OpT.pickF rfl (dk rfl) hm.s0 c_165 rfl rfl)) (Ct.mo rfl rfl) ?_
 refine DG.mv rfl rfl rfl rfl rfl rfl ?_
 refine DG.off rfl rfl rfl rfl rfl rfl rfl ?_
 refine DG.off rfl rfl rfl rfl rfl rfl rfl ?_
 refine DG.off rfl rfl rfl rfl rfl rfl rfl ?_
 refine DG.off rfl rfl rfl rfl rfl rfl rfl ?_
 refine DG.off rfl rfl rfl rfl rfl rfl rfl ?_
 refine DG.step (c := ⟨some 44, .bool false, [(38, .bool false)], [], []⟩) (fun t hm => One.step rfl (.free rfl) (OpT.pickF rfl (dk rfl) hm.s0 rfl rfl rfl)) (Ct.mo rfl rfl) ?_
 refine DG.mv rfl rfl rfl rfl rfl rfl ?_
 refine DG.off rfl rfl rfl rfl rfl rfl rfl ?_
 refine DG.off rfl rfl rfl rfl rfl rfl rfl ?_
 refine DG.off rfl rfl rfl rfl rfl rfl rfl ?_
 refine DG.off rfl rfl rfl rfl rfl rfl rfl ?_
 refine DG.off rfl rfl rfl rfl rfl rfl rfl ?_
 refine DG.step (c := ⟨some 51, .bool false, [(45, .bool false)], [], []⟩) (fun t hm => One.step rfl (.free rfl) (OpT.pickF rfl (dk rfl) hm.s0 rfl rfl rfl)) (Ct.mo rfl rfl) ?_
 refine DG.step (c := ⟨some 6, .bool false, [(51, .bool false)], [], []⟩) (fun t hm => One.step rfl (.free rfl) (OpT.assign rfl (dk rfl) hm.s0 rfl)) (Ct.mo rfl rfl) ?_
 refine DG.fin (s1 := ⟨[(6, .bool false)], [.box b_141 25 (Arr4.oc .u64 x2), .tab 1 pow10V, .ro 2 deBruijnD, .ro 3 deBruijn32D]⟩) (ms := [0, 1, 3, 3, 15, 31, 63, 127, 127, 511, 1023, 2047, 4095, 8191, 4095, 32767, 65535, 131071, 262143, 524287, 1048575, 524287, 4194303, 8388607, 16777215, 33554431]) TrydMixed rfl (by kernel_rfl) (by kernel_rfl) (by kernel_rfl) (.cons rfl (.nil _)) rfl (fun u hu => (tN (T.by_turn hu ?_)))
 refine T.ret ?_
 exact Fin.doneK (.cons _ _ _ _ (.tmp 6 _ rfl) .nil) (.cons 1 rfl (.cons 1 rfl (.cons 1 rfl (.nil _)))) (by cases h; exact ⟨rfl, rfl⟩)
 refine DG.off c_164 rfl rfl rfl rfl rfl rfl ?_
 refine DG.off c_164 rfl rfl rfl rfl rfl rfl ?_
 refine DG.off c_164 rfl rfl rfl rfl rfl rfl ?_
 refine DG.step (c := ⟨some 32, .bool false, [(28, .bool v_162)], [], []⟩) (fun t hm => One.step rfl (.free rfl) (OpT.pickF rfl (dk rfl) hm.s0 c_164 rfl rfl)) (Ct.mo rfl rfl) ?_
 refine DG.mv rfl rfl rfl rfl rfl rfl ?_
 refine DG.off rfl rfl rfl rfl rfl rfl rfl ?_
 refine DG.off rfl rfl rfl rfl rfl rfl rfl ?_
 refine DG.off rfl rfl rfl rfl rfl rfl rfl ?_
 refine DG.step (c := ⟨some 37, .bool false, [(33, .bool false)], [], []⟩) (fun t hm => One.step rfl (.free rfl) (OpT.pickF rfl (dk rfl) hm.s0 rfl rfl rfl)) (Ct.mo rfl rfl) ?_
 refine DG.mv rfl rfl rfl rfl rfl rfl ?_
 refine DG.off rfl rfl rfl rfl rfl rfl rfl ?_
 refine DG.off rfl rfl rfl rfl rfl rfl rfl ?_
 refine DG.off rfl rfl rfl rfl rfl rfl rfl ?_
 refine DG.off rfl rfl rfl rfl rfl rfl rfl ?_
 refine DG.off rfl rfl rfl rfl rfl rfl rfl ?_
 refine DG.step (c := ⟨some 44, .bool false, [(38, .bool false)], [], []⟩) (fun t hm => One.step rfl (.free rfl) (OpT.pickF rfl (dk rfl) hm.s0 rfl rfl rfl)) (Ct.mo rfl rfl) ?_
 refine DG.mv rfl rfl rfl rfl rfl rfl ?_
 refine DG.off rfl rfl rfl rfl rfl rfl rfl ?_
 refine DG.off rfl rfl rfl rfl rfl rfl rfl ?_
 refine DG.off rfl rfl rfl rfl rfl rfl rfl ?_
 refine DG.off rfl rfl rfl rfl rfl rfl rfl ?_
 refine DG.off rfl rfl rfl rfl rfl rfl rfl ?_
 refine DG.step (c := ⟨some 51, .bool false, [(45, .bool false)], [], []⟩) (fun t hm => One.step rfl (.free rfl) (OpT.pickF rfl (dk rfl) hm.s0 rfl rfl rfl)) (Ct.mo rfl rfl) ?_
 refine DG.step (c := ⟨some 6, .bool false, [(51, .bool false)], [], []⟩) (fun t hm => One.step rfl (.free rfl) (OpT.assign rfl (dk rfl) hm.s0 rfl)) (Ct.mo rfl rfl) ?_
 refine DG.fin (s1 := ⟨[(6, .bool false)], [.box b_141 25 (Arr4.oc .u64 x2), .tab 1 pow10V, .ro 2 deBruijnD, .ro 3 deBruijn32D]⟩) (ms := [0, 1, 3, 3, 15, 31, 63, 127, 127, 511, 1023, 2047, 4095, 8191, 4095, 32767, 65535, 131071, 262143, 524287, 1048575, 524287, 4194303, 8388607, 16777215, 33554431]) TrydMixed rfl (by kernel_rfl) (by kernel_rfl) (by kernel_rfl) (.cons rfl (.nil _)) rfl (fun u hu => (tN (T.by_turn hu ?_)))
 refine T.ret ?_
 exact Fin.doneK (.cons _ _ _ _ (.tmp 6 _ rfl) .nil) (.cons 1 rfl (.cons 1 rfl (.cons 1 rfl (.nil _)))) (by cases h; exact ⟨rfl, rfl⟩)
end Go.Rv

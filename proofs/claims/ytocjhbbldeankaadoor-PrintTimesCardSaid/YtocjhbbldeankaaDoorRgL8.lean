/- Each function computes what its plain text says: printed by a program of ours. -/
import Derived.Test.YtocjhbbldeankaaDoorRgW6
namespace Go.Rv
open Go.Proofs
set_option maxRecDepth 100000
set_option maxHeartbeats 4000000
set_option linter.unusedVariables false
abbrev l5_PrintTimes_q (r : Bool) : Exit → St → Prop := retS Tryd.prog Tryd.f8 (fun y t => y = (.bool r) ∧ t = [.tab 1 pow10V, .ro 2 deBruijnD, .ro 3 deBruijn32D])
theorem l5_PrintTimes_j1_T {r : Bool} (K : Nat) (x2 : Bool) (n : Bool) (p : Int) (q : Int) (s : List aNd) (u : Bool) (v : List aNd) (w : Int) (y : Bool) (h : l5_PrintTimes_j1 K x2 n p q s u v w y = some r) : T Tryd.prog 96 (Code.at [1, 1, 1, 1, 1, 1, 1, 1, 1, 1] (codeOf Tryd.f8)) ⟨[(2, .bool x2), (7, .bool n), (8, .int .i64 p), (9, .int .i64 q), (11, .sl true 9 (s.map c_aNd)), (13, .bool u), (14, .sl false 9 (v.map c_aNd)), (16, .int .i64 w), (17, .bool y)], [.tab 1 pow10V, .ro 2 deBruijnD, .ro 3 deBruijn32D]⟩ (l5_PrintTimes_q r) := by
 unfold l5_PrintTimes_j1 at h
 refine T.seq (T.rL ?_)
 refine mw rfl ?_
 refine mw rfl ?_
 rcases bif_some h with ⟨m, h⟩ | ⟨m, h⟩
 refine TL'.step (.on rfl rfl rfl m) (OpT.move rfl (dk rfl) rfl ?_)
 refine sp rfl (OpT.pickT rfl (dk rfl) rfl m rfl ?_)
 refine mw rfl ?_
 rcases bif_some h with ⟨d, h⟩ | ⟨d, h⟩
 refine TL'.step (.on rfl rfl rfl d) (OpT.move rfl (dk rfl) rfl ?_)
 refine TL'.step (.on rfl rfl rfl d) (OpT.int2 rfl rfl (dk rfl) rfl rfl ?_)
 refine sp rfl (OpT.pickT rfl (dk rfl) rfl d rfl ?_)
 refine mw rfl ?_
 rcases bif_some h with ⟨c, h⟩ | ⟨c, h⟩
 refine TL'.step (.on rfl rfl rfl c) (OpT.move rfl (dk rfl) rfl ?_)
 refine TL'.step (.on rfl rfl rfl c) (OpT.move rfl (dk rfl) rfl ?_)
 obtain ⟨aa, z, h⟩ := bind_some h
 refine TL'.step (.on rfl rfl rfl c) (OpT.callPA rfl (dk rfl) Tryd.func18 rfl rfl (Args.cons rfl (Args.cons rfl Args.nil)) (CallR.nil (r4_Same_T K (flx0 := true) (flx1 := false) z)) ?_)
 refine sp rfl (OpT.pickT rfl (dk rfl) rfl c rfl ?_)
 refine mw rfl ?_
 rcases bif_some h with ⟨a, h⟩ | ⟨a, h⟩
 refine TL'.step (.on rfl rfl rfl a) (OpT.move rfl (dk rfl) rfl ?_)
 refine TL'.step (.on rfl rfl rfl a) (OpT.move rfl (dk rfl) rfl ?_)
 refine TL'.step (.on rfl rfl rfl a) (OpT.move rfl (dk rfl) rfl ?_)
 rcases bif_some h with ⟨f, h⟩ | ⟨f, h⟩
 refine TL'.step (.on rfl rfl rfl f) (OpT.move rfl (dk rfl) rfl ?_)
 refine TL'.step (.on rfl rfl rfl f) (OpT.int2 rfl rfl (dk rfl) rfl rfl ?_)
 refine TL'.step (.on rfl rfl rfl a) (OpT.pickT rfl (dk rfl) rfl f rfl ?_)
 refine TL'.step (.on rfl rfl rfl a) (OpT.move rfl (dk rfl) rfl ?_)
 rcases bif_some h with ⟨b, h⟩ | ⟨b, h⟩
 refine TL'.pU (.off _ _ _ _ rfl rfl rfl b) (dk rfl) ?_
 refine TL'.pU (.off _ _ _ _ rfl rfl rfl b) (dk rfl) ?_
 refine TL'.pU (.off _ _ _ _ rfl rfl rfl b) (dk rfl) ?_
 refine TL'.pU (.gone _ _ _ rfl rfl rfl) (dk rfl) ?_
 refine TL'.pU (.gone _ _ _ rfl rfl rfl) (dk rfl) ?_
 refine TL'.pU (.off _ _ _ _ rfl rfl rfl b) (dk rfl) ?_
 refine TL'.pU (.off _ _ _ _ rfl rfl rfl b) (dk rfl) ?_
 refine TL'.pU (.gone _ _ _ rfl rfl rfl) (dk rfl) ?_
 refine TL'.pU (.gone _ _ _ rfl rfl rfl) (dk rfl) ?_
 refine TL'.pU (.off _ _ _ _ rfl rfl rfl b) (dk rfl) ?_
 refine TL'.step (.on rfl rfl rfl a) (OpT.pickT rfl (dk rfl) rfl b rfl ?_)
 refine TL'.step (.on rfl rfl rfl a) (OpT.bool_eql rfl (dk rfl) ul4 rfl rfl ?_)
 refine sp rfl (OpT.pickT rfl (dk rfl) rfl a rfl ?_)
 refine aw rfl ?_
 refine TL'.nil (tN ?_)
 refine T.ret ?_
 exact Fin.doneK (.cons _ _ _ _ (.tmp 6 _ rfl) .nil) (.cons 0 rfl (.cons 0 rfl (.cons 0 rfl (.nil _)))) (by cases h; exact ⟨rfl, rfl⟩)
 refine TL'.step (.on rfl rfl rfl b) (OpT.move rfl (dk rfl) rfl ?_)
 refine TL'.step (.on rfl rfl rfl b) (OpT.not rfl (dk rfl) rfl ?_)
 refine TL'.step (.on rfl rfl rfl b) (OpT.move rfl (dk rfl) rfl ?_)
 rcases bif_some h with ⟨g, h⟩ | ⟨g, h⟩
 refine TL'.step (.on rfl rfl rfl g) (OpT.move rfl (dk rfl) rfl ?_)
 refine TL'.step (.on rfl rfl rfl g) (OpT.int2 rfl rfl (dk rfl) rfl rfl ?_)
 refine TL'.step (.on rfl rfl rfl b) (OpT.pickT rfl (dk rfl) rfl g rfl ?_)
 refine TL'.step (.on rfl rfl rfl b) (OpT.move rfl (dk rfl) rfl ?_)
 rcases bif_some h with ⟨i, h⟩ | ⟨i, h⟩
 refine TL'.step (.on rfl rfl rfl i) (OpT.move rfl (dk rfl) rfl ?_)
 refine TL'.step (.on rfl rfl rfl i) (OpT.int2 rfl rfl (dk rfl) rfl rfl ?_)
 refine TL'.step (.on rfl rfl rfl b) (OpT.pickT rfl (dk rfl) rfl i rfl ?_)
 refine TL'.step (.on rfl rfl rfl a) (OpT.pickF rfl (dk rfl) rfl b rfl ?_)
 refine TL'.step (.on rfl rfl rfl a) (OpT.bool_eql rfl (dk rfl) ul4 rfl rfl ?_)
 refine sp rfl (OpT.pickT rfl (dk rfl) rfl a rfl ?_)
 refine aw rfl ?_
 refine TL'.nil (tN ?_)
 refine T.ret ?_
 exact Fin.doneK (.cons _ _ _ _ (.tmp 6 _ rfl) .nil) (.cons 0 rfl (.cons 0 rfl (.cons 0 rfl (.nil _)))) (by cases h; exact ⟨rfl, rfl⟩)
 refine TL'.pU (.off _ _ _ _ rfl rfl rfl i) (dk rfl) ?_
 refine TL'.pU (.off _ _ _ _ rfl rfl rfl i) (dk rfl) ?_
 refine TL'.step (.on rfl rfl rfl b) (OpT.pickF rfl (dk rfl) rfl i rfl ?_)
 refine TL'.step (.on rfl rfl rfl a) (OpT.pickF rfl (dk rfl) rfl b rfl ?_)
 refine TL'.step (.on rfl rfl rfl a) (OpT.bool_eql rfl (dk rfl) ul4 rfl rfl ?_)
 refine sp rfl (OpT.pickT rfl (dk rfl) rfl a rfl ?_)
 refine aw rfl ?_
 refine TL'.nil (tN ?_)
 refine T.ret ?_
 exact Fin.doneK (.cons _ _ _ _ (.tmp 6 _ rfl) .nil) (.cons 0 rfl (.cons 0 rfl (.cons 0 rfl (.nil _)))) (by cases h; exact ⟨rfl, rfl⟩)
 refine TL'.pU (.off _ _ _ _ rfl rfl rfl g) (dk rfl) ?_
 refine TL'.pU (.off _ _ _ _ rfl rfl rfl g) (dk rfl) ?_
 refine TL'.step (.on rfl rfl rfl b) (OpT.pickF rfl (dk rfl) rfl g rfl ?_)
 refine TL'.step (.on rfl rfl rfl b) (OpT.move rfl (dk rfl) rfl ?_)
 refine TL'.pU (.off _ _ _ _ rfl rfl rfl rfl) (dk rfl) ?_
 refine TL'.pU (.off _ _ _ _ rfl rfl rfl rfl) (dk rfl) ?_
 refine TL'.step (.on rfl rfl rfl b) (OpT.pickF rfl (dk rfl) rfl rfl rfl ?_)
 refine TL'.step (.on rfl rfl rfl a) (OpT.pickF rfl (dk rfl) rfl b rfl ?_)
 refine TL'.step (.on rfl rfl rfl a) (OpT.bool_eql rfl (dk rfl) ul4 rfl rfl ?_)
 refine sp rfl (OpT.pickT rfl (dk rfl) rfl a rfl ?_)
 refine aw rfl ?_
 refine TL'.nil (tN ?_)
 refine T.ret ?_
 exact Fin.doneK (.cons _ _ _ _ (.tmp 6 _ rfl) .nil) (.cons 0 rfl (.cons 0 rfl (.cons 0 rfl (.nil _)))) (by cases h; exact ⟨rfl, rfl⟩)
 refine TL'.pU (.off _ _ _ _ rfl rfl rfl f) (dk rfl) ?_
 refine TL'.pU (.off _ _ _ _ rfl rfl rfl f) (dk rfl) ?_
 refine TL'.step (.on rfl rfl rfl a) (OpT.pickF rfl (dk rfl) rfl f rfl ?_)
 refine TL'.step (.on rfl rfl rfl a) (OpT.move rfl (dk rfl) rfl ?_)
 refine TL'.step (.on rfl rfl rfl rfl) (OpT.move rfl (dk rfl) rfl ?_)
 refine TL'.step (.on rfl rfl rfl rfl) (OpT.not rfl (dk rfl) rfl ?_)
 refine TL'.step (.on rfl rfl rfl rfl) (OpT.move rfl (dk rfl) rfl ?_)
 rcases bif_some h with ⟨j, h⟩ | ⟨j, h⟩
 refine TL'.step (.on rfl rfl rfl j) (OpT.move rfl (dk rfl) rfl ?_)
 refine TL'.step (.on rfl rfl rfl j) (OpT.int2 rfl rfl (dk rfl) rfl rfl ?_)
 refine TL'.step (.on rfl rfl rfl rfl) (OpT.pickT rfl (dk rfl) rfl j rfl ?_)
 refine TL'.step (.on rfl rfl rfl rfl) (OpT.move rfl (dk rfl) rfl ?_)
 rcases bif_some h with ⟨l, h⟩ | ⟨l, h⟩
 refine TL'.step (.on rfl rfl rfl l) (OpT.move rfl (dk rfl) rfl ?_)
 refine TL'.step (.on rfl rfl rfl l) (OpT.int2 rfl rfl (dk rfl) rfl rfl ?_)
 refine TL'.step (.on rfl rfl rfl rfl) (OpT.pickT rfl (dk rfl) rfl l rfl ?_)
 refine TL'.step (.on rfl rfl rfl a) (OpT.pickF rfl (dk rfl) rfl rfl rfl ?_)
 refine TL'.step (.on rfl rfl rfl a) (OpT.bool_eql rfl (dk rfl) ul4 rfl rfl ?_)
 refine sp rfl (OpT.pickT rfl (dk rfl) rfl a rfl ?_)
 refine aw rfl ?_
 refine TL'.nil (tN ?_)
 refine T.ret ?_
 exact Fin.doneK (.cons _ _ _ _ (.tmp 6 _ rfl) .nil) (.cons 0 rfl (.cons 0 rfl (.cons 0 rfl (.nil _)))) (by cases h; exact ⟨rfl, rfl⟩)
 refine TL'.pU (.off _ _ _ _ rfl rfl rfl l) (dk rfl) ?_
 refine TL'.pU (.off _ _ _ _ rfl rfl rfl l) (dk rfl) ?_
 refine TL'.step (.on rfl rfl rfl rfl) (OpT.pickF rfl (dk rfl) rfl l rfl ?_)
 refine TL'.step (.on rfl rfl rfl a) (OpT.pickF rfl (dk rfl) rfl rfl rfl ?_)
 refine TL'.step (.on rfl rfl rfl a) (OpT.bool_eql rfl (dk rfl) ul4 rfl rfl ?_)
 refine sp rfl (OpT.pickT rfl (dk rfl) rfl a rfl ?_)
 refine aw rfl ?_
 refine TL'.nil (tN ?_)
 refine T.ret ?_
 exact Fin.doneK (.cons _ _ _ _ (.tmp 6 _ rfl) .nil) (.cons 0 rfl (.cons 0 rfl (.cons 0 rfl (.nil _)))) (by cases h; exact ⟨rfl, rfl⟩)
 refine TL'.pU (.off _ _ _ _ rfl rfl rfl j) (dk rfl) ?_
 refine TL'.pU (.off _ _ _ _ rfl rfl rfl j) (dk rfl) ?_
 refine TL'.step (.on rfl rfl rfl rfl) (OpT.pickF rfl (dk rfl) rfl j rfl ?_)
 refine TL'.step (.on rfl rfl rfl rfl) (OpT.move rfl (dk rfl) rfl ?_)
 refine TL'.pU (.off _ _ _ _ rfl rfl rfl rfl) (dk rfl) ?_
 refine TL'.pU (.off _ _ _ _ rfl rfl rfl rfl) (dk rfl) ?_
 refine TL'.step (.on rfl rfl rfl rfl) (OpT.pickF rfl (dk rfl) rfl rfl rfl ?_)
 refine TL'.step (.on rfl rfl rfl a) (OpT.pickF rfl (dk rfl) rfl rfl rfl ?_)
 refine TL'.step (.on rfl rfl rfl a) (OpT.bool_eql rfl (dk rfl) ul4 rfl rfl ?_)
 refine sp rfl (OpT.pickT rfl (dk rfl) rfl a rfl ?_)
 refine aw rfl ?_
 refine TL'.nil (tN ?_)
 refine T.ret ?_
 exact Fin.doneK (.cons _ _ _ _ (.tmp 6 _ rfl) .nil) (.cons 0 rfl (.cons 0 rfl (.cons 0 rfl (.nil _)))) (by cases h; exact ⟨rfl, rfl⟩)
 refine TL'.pU (.off _ _ _ _ rfl rfl rfl a) (dk rfl) ?_
 refine TL'.pU (.off _ _ _ _ rfl rfl rfl a) (dk rfl) ?_
 refine TL'.pU (.off _ _ _ _ rfl rfl rfl a) (dk rfl) ?_
 refine TL'.pU (.gone _ _ _ rfl rfl rfl) (dk rfl) ?_
 refine TL'.pU (.gone _ _ _ rfl rfl rfl) (dk rfl) ?_
 refine TL'.pU (.off _ _ _ _ rfl rfl rfl a) (dk rfl) ?_
 refine TL'.pU (.off _ _ _ _ rfl rfl rfl a) (dk rfl) ?_
 refine TL'.pU (.gone _ _ _ rfl rfl rfl) (dk rfl) ?_
 refine TL'.pU (.gone _ _ _ rfl rfl rfl) (dk rfl) ?_
 refine TL'.pU (.gone _ _ _ rfl rfl rfl) (dk rfl) ?_
 refine TL'.pU (.gone _ _ _ rfl rfl rfl) (dk rfl) ?_
 refine TL'.pU (.gone _ _ _ rfl rfl rfl) (dk rfl) ?_
 refine TL'.pU (.gone _ _ _ rfl rfl rfl) (dk rfl) ?_
 refine TL'.pU (.gone _ _ _ rfl rfl rfl) (dk rfl) ?_
 refine TL'.pU (.gone _ _ _ rfl rfl rfl) (dk rfl) ?_
 refine TL'.pU (.gone _ _ _ rfl rfl rfl) (dk rfl) ?_
 refine TL'.pU (.gone _ _ _ rfl rfl rfl) (dk rfl) ?_
 refine TL'.pU (.off _ _ _ _ rfl rfl rfl a) (dk rfl) ?_
 refine TL'.pU (.off _ _ _ _ rfl rfl rfl a) (dk rfl) ?_
 refine sp rfl (OpT.pickF rfl (dk rfl) rfl a rfl ?_)
 refine aw rfl ?_
 refine TL'.nil (tN ?_)
 refine T.ret ?_
 exact Fin.doneK (.cons _ _ _ _ (.tmp 6 _ rfl) .nil) (.cons 0 rfl (.cons 0 rfl (.cons 0 rfl (.nil _)))) (by cases h; exact ⟨rfl, rfl⟩)
 refine TL'.pU (.off _ _ _ _ rfl rfl rfl c) (dk rfl) ?_
 refine TL'.pU (.off _ _ _ _ rfl rfl rfl c) (dk rfl) ?_
 refine TL'.pU (.off _ _ _ _ rfl rfl rfl c) (dk rfl) ?_
 refine sp rfl (OpT.pickF rfl (dk rfl) rfl c rfl ?_)
 refine mw rfl ?_
 refine TL'.pU (.off _ _ _ _ rfl rfl rfl rfl) (dk rfl) ?_
 refine TL'.pU (.off _ _ _ _ rfl rfl rfl rfl) (dk rfl) ?_
 refine TL'.pU (.off _ _ _ _ rfl rfl rfl rfl) (dk rfl) ?_
 refine TL'.pU (.gone _ _ _ rfl rfl rfl) (dk rfl) ?_
 refine TL'.pU (.gone _ _ _ rfl rfl rfl) (dk rfl) ?_
 refine TL'.pU (.off _ _ _ _ rfl rfl rfl rfl) (dk rfl) ?_
 refine TL'.pU (.off _ _ _ _ rfl rfl rfl rfl) (dk rfl) ?_
 refine TL'.pU (.gone _ _ _ rfl rfl rfl) (dk rfl) ?_
 refine TL'.pU (.gone _ _ _ rfl rfl rfl) (dk rfl) ?_
 refine TL'.pU (.gone _ _ _ rfl rfl rfl) (dk rfl) ?_
 refine TL'.pU (.gone _ _ _ rfl rfl rfl) (dk rfl) ?_
 refine TL'.pU (.gone _ _ _ rfl rfl rfl) (dk rfl) ?_
 refine TL'.pU (.gone _ _ _ rfl rfl rfl) (dk rfl) ?_
 refine TL'.pU (.gone _ _ _ rfl rfl rfl) (dk rfl) ?_
 refine TL'.pU (.gone _ _ _ rfl rfl rfl) (dk rfl) ?_
 refine TL'.pU (.gone _ _ _ rfl rfl rfl) (dk rfl) ?_
 refine TL'.pU (.gone _ _ _ rfl rfl rfl) (dk rfl) ?_
 refine TL'.pU (.off _ _ _ _ rfl rfl rfl rfl) (dk rfl) ?_
 refine TL'.pU (.off _ _ _ _ rfl rfl rfl rfl) (dk rfl) ?_
 refine sp rfl (OpT.pickF rfl (dk rfl) rfl rfl rfl ?_)
 refine aw rfl ?_
 refine TL'.nil (tN ?_)
 refine T.ret ?_
 exact Fin.doneK (.cons _ _ _ _ (.tmp 6 _ rfl) .nil) (.cons 0 rfl (.cons 0 rfl (.cons 0 rfl (.nil _)))) (by cases h; exact ⟨rfl, rfl⟩)
 refine TL'.pU (.off _ _ _ _ rfl rfl rfl d) (dk rfl) ?_
 refine TL'.pU (.off _ _ _ _ rfl rfl rfl d) (dk rfl) ?_
 refine sp rfl (OpT.pickF rfl (dk rfl) rfl d rfl ?_)
 refine mw rfl ?_
 refine TL'.pU (.off _ _ _ _ rfl rfl rfl rfl) (dk rfl) ?_
 refine TL'.pU (.off _ _ _ _ rfl rfl rfl rfl) (dk rfl) ?_
 refine TL'.pU (.off _ _ _ _ rfl rfl rfl rfl) (dk rfl) ?_
 refine sp rfl (OpT.pickF rfl (dk rfl) rfl rfl rfl ?_)
 refine mw rfl ?_
 refine TL'.pU (.off _ _ _ _ rfl rfl rfl rfl) (dk rfl) ?_
 refine TL'.pU (.off _ _ _ _ rfl rfl rfl rfl) (dk rfl) ?_
 refine TL'.pU (.off _ _ _ _ rfl rfl rfl rfl) (dk rfl) ?_
 refine TL'.pU (.gone _ _ _ rfl rfl rfl) (dk rfl) ?_
 refine TL'.pU (.gone _ _ _ rfl rfl rfl) (dk rfl) ?_
 refine TL'.pU (.off _ _ _ _ rfl rfl rfl rfl) (dk rfl) ?_
 refine TL'.pU (.off _ _ _ _ rfl rfl rfl rfl) (dk rfl) ?_
 refine TL'.pU (.gone _ _ _ rfl rfl rfl) (dk rfl) ?_
 refine TL'.pU (.gone _ _ _ rfl rfl rfl) (dk rfl) ?_
 refine TL'.pU (.gone _ _ _ rfl rfl rfl) (dk rfl) ?_
 refine TL'.pU (.gone _ _ _ rfl rfl rfl) (dk rfl) ?_
 refine TL'.pU (.gone _ _ _ rfl rfl rfl) (dk rfl) ?_
 refine TL'.pU (.gone _ _ _ rfl rfl rfl) (dk rfl) ?_
 refine TL'.pU (.gone _ _ _ rfl rfl rfl) (dk rfl) ?_
 refine TL'.pU (.gone _ _ _ rfl rfl rfl) (dk rfl) ?_
 refine TL'.pU (.gone _ _ _ rfl rfl rfl) (dk rfl) ?_
 refine TL'.pU (.gone _ _ _ rfl rfl rfl) (dk rfl) ?_
 refine TL'.pU (.off _ _ _ _ rfl rfl rfl rfl) (dk rfl) ?_
 refine TL'.pU (.off _ _ _ _ rfl rfl rfl rfl) (dk rfl) ?_
 refine sp rfl (OpT.pickF rfl (dk rfl) rfl rfl rfl ?_)
 refine aw rfl ?_
 refine TL'.nil (tN ?_)
 refine T.ret ?_
 exact Fin.doneK (.cons _ _ _ _ (.tmp 6 _ rfl) .nil) (.cons 0 rfl (.cons 0 rfl (.cons 0 rfl (.nil _)))) (by cases h; exact ⟨rfl, rfl⟩)
 refine TL'.pU (.off _ _ _ _ rfl rfl rfl m) (dk rfl) ?_
 refine sp rfl (OpT.pickF rfl (dk rfl) rfl m rfl ?_)
 refine mw rfl ?_
 refine TL'.pU (.off _ _ _ _ rfl rfl rfl rfl) (dk rfl) ?_
 refine TL'.pU (.off _ _ _ _ rfl rfl rfl rfl) (dk rfl) ?_
 refine sp rfl (OpT.pickF rfl (dk rfl) rfl rfl rfl ?_)
 refine mw rfl ?_
 refine TL'.pU (.off _ _ _ _ rfl rfl rfl rfl) (dk rfl) ?_
 refine TL'.pU (.off _ _ _ _ rfl rfl rfl rfl) (dk rfl) ?_
 refine TL'.pU (.off _ _ _ _ rfl rfl rfl rfl) (dk rfl) ?_
 refine sp rfl (OpT.pickF rfl (dk rfl) rfl rfl rfl ?_)
 refine mw rfl ?_
 refine TL'.pU (.off _ _ _ _ rfl rfl rfl rfl) (dk rfl) ?_
 refine TL'.pU (.off _ _ _ _ rfl rfl rfl rfl) (dk rfl) ?_
 refine TL'.pU (.off _ _ _ _ rfl rfl rfl rfl) (dk rfl) ?_
 refine TL'.pU (.gone _ _ _ rfl rfl rfl) (dk rfl) ?_
 refine TL'.pU (.gone _ _ _ rfl rfl rfl) (dk rfl) ?_
 refine TL'.pU (.off _ _ _ _ rfl rfl rfl rfl) (dk rfl) ?_
 refine TL'.pU (.off _ _ _ _ rfl rfl rfl rfl) (dk rfl) ?_
 refine TL'.pU (.gone _ _ _ rfl rfl rfl) (dk rfl) ?_
 refine TL'.pU (.gone _ _ _ rfl rfl rfl) (dk rfl) ?_
 refine TL'.pU (.gone _ _ _ rfl rfl rfl) (dk rfl) ?_
 refine TL'.pU (.gone _ _ _ rfl rfl rfl) (dk rfl) ?_
 refine TL'.pU (.gone _ _ _ rfl rfl rfl) (dk rfl) ?_
 refine TL'.pU (.gone _ _ _ rfl rfl rfl) (dk rfl) ?_
 refine TL'.pU (.gone _ _ _ rfl rfl rfl) (dk rfl) ?_
 refine TL'.pU (.gone _ _ _ rfl rfl rfl) (dk rfl) ?_
 refine TL'.pU (.gone _ _ _ rfl rfl rfl) (dk rfl) ?_
 refine TL'.pU (.gone _ _ _ rfl rfl rfl) (dk rfl) ?_
 refine TL'.pU (.off _ _ _ _ rfl rfl rfl rfl) (dk rfl) ?_
 refine TL'.pU (.off _ _ _ _ rfl rfl rfl rfl) (dk rfl) ?_
 refine sp rfl (OpT.pickF rfl (dk rfl) rfl rfl rfl ?_)
 refine aw rfl ?_
 refine TL'.nil (tN ?_)
 refine T.ret ?_
 exact Fin.doneK (.cons _ _ _ _ (.tmp 6 _ rfl) .nil) (.cons 0 rfl (.cons 0 rfl (.cons 0 rfl (.nil _)))) (by cases h; exact ⟨rfl, rfl⟩)
theorem l5_PrintTimes_j0_T {r : Bool} (K : Nat) (x2 : Bool) (y : Bool) (aa : Int) (ab : Int) (a : Arr4) (m : List Int) (p : Int) (q : Int) (ad : Nat) (h : l5_PrintTimes_j0 K x2 y aa ab a m p q = some r) : T Tryd.prog 96 (Code.at [1, 1, 1, 1, 1, 1] (codeOf Tryd.f8)) ⟨[(2, .bool x2), (7, .bool y), (8, .int .i64 aa), (9, .int .i64 ab), (10, .ptr ad 0)], [.box ad 42 [.d (.int .u8 (5 : Int)), .d (.int .u64 a.a0), .d (.int .u64 a.a1), .d (.int .u64 a.a2), .d (.int .u64 a.a3), .d (.sl false 1 (m.map (cI .i64))), .d (.int .i64 p), .d (.int .i64 q), .d (.str (⟨#[]⟩ : ByteArray))], .tab 1 pow10V, .ro 2 deBruijnD, .ro 3 deBruijn32D]⟩ (l5_PrintTimes_q r) := by
 unfold l5_PrintTimes_j0 at h
 refine T.seq ?_
 refine T.by_turn Turn.keepPlace ?_
 refine DGG.start ?_
 refine DGG.step (c := fun g => ⟨some 35, .c (.ex (.slice (some ⟨(g 0).2, 0, none⟩) 1 1)), [], [(0, .ro 0 [])], [(0, .arrX (.slice (some ⟨(g 0).2, 0, none⟩) 1 1) 5 1 0 ([(120 : Int)].map (cI .u8)))]⟩) [0] (fun g γ' h => by simp only [h 0 (by decide)]) (fun g t hm => One.step rfl (.free rfl) (OpT.buildSliceXAt 0 (elems := ([(120 : Int)] : List Int).map (cI .u8)) rfl (dk rfl) ul32 i5 (by decide) rfl (all1 rfl) (parts_cons rfl rfl parts_nil) rfl rfl (lenAll rfl) (by decide) hm.o0 (fun b => ⟨(fun _ => undef, b), rfl⟩))) (fun g => Ct.mo rfl rfl) ?_
 refine DGG.step (c := fun g => ⟨some 36, .sl true 1 ([(120 : Int)].map (cI .u8)), [(35, .c (.ex (.slice (some ⟨(g 0).2, 0, none⟩) 1 1)))], [(0, .arrX (.slice (some ⟨(g 0).2, 0, none⟩) 1 1) 5 1 0 ([(120 : Int)].map (cI .u8)))], [(0, .ro 0 [])]⟩) [0] (fun g γ' h => by simp only [h 0 (by decide)]) (fun g t hm => One.step rfl (.free rfl) (OpT.convSame (i := 0) (xs := [(120 : Int)]) (f := (cI .u8)) rfl (dk rfl) ul32 ul5 hm.s0 hm.o0 rfl (by decide) ⟨u0, rfl⟩)) (fun g => Ct.mo rfl rfl) ?_
 obtain ⟨j, ag, h⟩ := bind_some h
 refine DGG.step (c := fun g => ⟨some 37, .agg (Arr4.dc .u64 j), [(36, .sl true 1 ([(120 : Int)].map (cI .u8)))], [], []⟩) [] (fun _ _ _ => rfl) (fun g t hm => One.step rfl (.free rfl) (OpT.callPA rfl (dk rfl) Tryd.func19 rfl rfl (Args.cons hm.s0 Args.nil) (CallR.nil (r1_Of_T K (flx0 := true) ag)) ⟨u0, rfl⟩)) (fun g => Ct.mo rfl rfl) ?_
 refine DGG.step (c := fun g => ⟨some 38, .agg [.int .u8 (2 : Int), .int .u64 j.a0, .int .u64 j.a1, .int .u64 j.a2, .int .u64 j.a3, .sl false 1 (([] : List Int).map (cI .i64)), .int .i64 (0 : Int), .int .i64 (0 : Int), .str (⟨#[]⟩ : ByteArray)], [(37, .agg (Arr4.dc .u64 j))], [], []⟩) [] (fun _ _ _ => rfl) (fun g t hm => One.step rfl (.free rfl) (OpT.thenTurn (OpT.build (l := [.int .u8 (2 : Int), .int .u64 j.a0, .int .u64 j.a1, .int .u64 j.a2, .int .u64 j.a3, .ex (.slice none 0 0), .int .i64 (0 : Int), .int .i64 (0 : Int), .str (⟨#[]⟩ : ByteArray)]) rfl (dk rfl) (built_struct (pl := [(0, 1), (1, 4), (5, 1), (6, 1), (7, 1), (8, 1)]) ul42 i42 rfl) (all1 rfl) (parts_cons rfl rfl (parts_cons hm.s0 rfl parts_nil)) rfl rfl) (Turn.weakSlotP 38 (l := [.int .u8 (2 : Int), .int .u64 j.a0, .int .u64 j.a1, .int .u64 j.a2, .int .u64 j.a3, .ex (.slice none 0 0), .int .i64 (0 : Int), .int .i64 (0 : Int), .str (⟨#[]⟩ : ByteArray)]) (l' := [.int .u8 (2 : Int), .int .u64 j.a0, .int .u64 j.a1, .int .u64 j.a2, .int .u64 j.a3, .sl false 1 (([] : List Int).map (cI .i64)), .int .i64 (0 : Int), .int .i64 (0 : Int), .str (⟨#[]⟩ : ByteArray)]) (.cons (.same _) (.cons (.same _) (.cons (.same _) (.cons (.same _) (.cons (.same _) (.cons (.nil _ _) (.cons (.same _) (.cons (.same _) (.cons (.same _) (.refl _))))))))))) ⟨u0, rfl⟩)) (fun g => Ct.mo rfl rfl) ?_
 refine DGG.step (c := fun g => ⟨some 39, .agg [.int .u8 (5 : Int), .int .u64 a.a0, .int .u64 a.a1, .int .u64 a.a2, .int .u64 a.a3, .sl false 1 (m.map (cI .i64)), .int .i64 p, .int .i64 q, .str (⟨#[]⟩ : ByteArray)], [(10, .ptr ad 0)], [(1, .box ad 42 [.d (.int .u8 (5 : Int)), .d (.int .u64 a.a0), .d (.int .u64 a.a1), .d (.int .u64 a.a2), .d (.int .u64 a.a3), .d (.sl false 1 (m.map (cI .i64))), .d (.int .i64 p), .d (.int .i64 q), .d (.str (⟨#[]⟩ : ByteArray))])], []⟩) [] (fun _ _ _ => rfl) (fun g t hm => One.step rfl (.free rfl) (OpT.lBAgg (i := 1) (l := [.int .u8 (5 : Int), .int .u64 a.a0, .int .u64 a.a1, .int .u64 a.a2, .int .u64 a.a3, .sl false 1 (m.map (cI .i64)), .int .i64 p, .int .i64 q, .str (⟨#[]⟩ : ByteArray)]) rfl (dk rfl) ul42 rfl i42 hm.s0 hm.o0 rfl rfl ⟨u0, rfl⟩)) (fun g => Ct.mo rfl rfl) ?_
 refine DGG.step (c := fun g => ⟨some 40, .sl true 9 ([(aNd.mk (2 : Int) j [] (0 : Int) (0 : Int) (⟨#[]⟩ : ByteArray)), (aNd.mk (5 : Int) a m p q (⟨#[]⟩ : ByteArray))].map c_aNd), [(38, .agg [.int .u8 (2 : Int), .int .u64 j.a0, .int .u64 j.a1, .int .u64 j.a2, .int .u64 j.a3, .sl false 1 (([] : List Int).map (cI .i64)), .int .i64 (0 : Int), .int .i64 (0 : Int), .str (⟨#[]⟩ : ByteArray)]), (39, .agg [.int .u8 (5 : Int), .int .u64 a.a0, .int .u64 a.a1, .int .u64 a.a2, .int .u64 a.a3, .sl false 1 (m.map (cI .i64)), .int .i64 p, .int .i64 q, .str (⟨#[]⟩ : ByteArray)])], [], []⟩) [] (fun _ _ _ => rfl) (fun g t hm => One.step rfl (.free rfl) (OpT.buildSlice (elems := ([(aNd.mk (2 : Int) j [] (0 : Int) (0 : Int) (⟨#[]⟩ : ByteArray)), (aNd.mk (5 : Int) a m p q (⟨#[]⟩ : ByteArray))] : List aNd).map c_aNd) rfl (dk rfl) ul22 i42 (by decide) rfl (all1 rfl) (parts_cons hm.s0 rfl (parts_cons hm.s1 rfl parts_nil)) rfl rfl (lenAll rfl) (by decide) ⟨u0, rfl⟩)) (fun g => Ct.mo rfl rfl) ?_
 refine DGG.step (c := fun g => ⟨some 11, .sl true 9 ([(aNd.mk (2 : Int) j [] (0 : Int) (0 : Int) (⟨#[]⟩ : ByteArray)), (aNd.mk (5 : Int) a m p q (⟨#[]⟩ : ByteArray))].map c_aNd), [(40, .sl true 9 ([(aNd.mk (2 : Int) j [] (0 : Int) (0 : Int) (⟨#[]⟩ : ByteArray)), (aNd.mk (5 : Int) a m p q (⟨#[]⟩ : ByteArray))].map c_aNd))], [], []⟩) [] (fun _ _ _ => rfl) (fun g t hm => One.step rfl (.free rfl) (OpT.assign rfl (dk rfl) hm.s0 ⟨u0, rfl⟩)) (fun g => Ct.mo rfl rfl) ?_
 refine DGG.fin (s1 := fun g => ⟨[(2, .bool x2), (7, .bool y), (8, .int .i64 aa), (9, .int .i64 ab), (11, .sl true 9 ([(aNd.mk (2 : Int) j [] (0 : Int) (0 : Int) (⟨#[]⟩ : ByteArray)), (aNd.mk (5 : Int) a m p q (⟨#[]⟩ : ByteArray))].map c_aNd))], [.ro 0 [], .box ad 42 [.d (.int .u8 (5 : Int)), .d (.int .u64 a.a0), .d (.int .u64 a.a1), .d (.int .u64 a.a2), .d (.int .u64 a.a3), .d (.sl false 1 (m.map (cI .i64))), .d (.int .i64 p), .d (.int .i64 q), .d (.str (⟨#[]⟩ : ByteArray))], .tab 1 pow10V, .ro 2 deBruijnD, .ro 3 deBruijn32D]⟩) (ms := [0, 1, 3, 7, 0, 31, 63]) TrydMixed rfl (by kernel_rfl) (by kernel_rfl) (by kernel_rfl) (fun g => by kernel_rfl) (fun g => .cons rfl (.cons rfl (.cons rfl (.cons rfl (.cons rfl (.nil _)))))) (fun _ => rfl) (fun g u hu => (tN (T.by_turn hu ?_)))
 refine T.seq (T.rL ?_)
 refine mw rfl ?_
 obtain ⟨af, ai, h⟩ := bind_some h
 refine sp rfl (OpT.callRoA rfl (dk rfl) Tryd.func9 rfl rfl (Args.cons rfl Args.nil) (.tab 2 rfl (.cons 3 rfl (.cons 4 rfl (.nil)))) (pT_T K (flx0 := true) ai) ?_)
 refine mw rfl ?_
 refine sp rfl (OpT.extract rfl (dk rfl) rfl rfl ?_)
 refine sp rfl (OpT.extract rfl (dk rfl) rfl rfl ?_)
 refine aw rfl ?_
 refine aw rfl ?_
 refine TL'.nil (tN (T.seq (T.rL ?_)))
 refine mw rfl ?_
 obtain ⟨ac, aj, h⟩ := bind_some h
 refine sp rfl (OpT.callPA rfl (dk rfl) Tryd.func17 rfl rfl (Args.cons rfl Args.nil) (CallR.nil (sy_Parse_T K aj)) ?_)
 refine mw rfl ?_
 refine sp rfl (OpT.extract rfl (dk rfl) rfl rfl ?_)
 refine sp rfl (OpT.extract rfl (dk rfl) rfl rfl ?_)
 refine sp rfl (OpT.extract rfl (dk rfl) rfl rfl ?_)
 refine aw rfl ?_
 refine aw rfl ?_
 refine aw rfl ?_
 refine TL'.nil (tN (T.seq (T.rL ?_)))
 refine mw rfl ?_
 refine sp rfl (OpT.str_eql rfl (dk rfl) rfl rfl ?_)
 refine mw rfl ?_
 rcases bif_some h with ⟨v, h⟩ | ⟨v, h⟩
 refine TL'.pU (.off _ _ _ _ rfl rfl rfl v) (dk rfl) ?_
 refine TL'.pU (.off _ _ _ _ rfl rfl rfl v) (dk rfl) ?_
 refine sp rfl (OpT.pickT rfl (dk rfl) rfl v rfl ?_)
 refine mw rfl ?_
 refine TL'.pU (.off _ _ _ _ rfl rfl rfl rfl) (dk rfl) ?_
 refine TL'.pU (.off _ _ _ _ rfl rfl rfl rfl) (dk rfl) ?_
 refine sp rfl (OpT.pickT rfl (dk rfl) rfl rfl rfl ?_)
 refine aw rfl ?_
 refine TL'.nil (tN ?_)
 refine T.by_turn ?_ (l5_PrintTimes_j1_T K x2 y aa ab [(aNd.mk (2 : Int) j [] (0 : Int) (0 : Int) (⟨#[]⟩ : ByteArray)), (aNd.mk (5 : Int) a m p q (⟨#[]⟩ : ByteArray))] af.2 ac.1 ac.2.2 true h)
 exact Turn.rp (.cons rfl (.cons rfl (.cons rfl (.cons rfl (.cons rfl (.cons rfl (.cons rfl (.cons rfl (.cons rfl (.nil _)))))))))) (.c (.s (.s .z)) (.c (.s (.s .z)) (.c (.s (.s .z)) (.n _))))
 refine TL'.step (.on rfl rfl rfl v) (OpT.move rfl (dk rfl) rfl ?_)
 refine TL'.step (.on rfl rfl rfl v) (OpT.str_eql rfl (dk rfl) rfl rfl ?_)
 refine sp rfl (OpT.pickF rfl (dk rfl) rfl v rfl ?_)
 refine mw rfl ?_
 rcases bif_some h with ⟨w, h⟩ | ⟨w, h⟩
 refine TL'.pU (.off _ _ _ _ rfl rfl rfl w) (dk rfl) ?_
 refine TL'.pU (.off _ _ _ _ rfl rfl rfl w) (dk rfl) ?_
 refine sp rfl (OpT.pickT rfl (dk rfl) rfl w rfl ?_)
 refine aw rfl ?_
 refine TL'.nil (tN ?_)
 refine T.by_turn ?_ (l5_PrintTimes_j1_T K x2 y aa ab [(aNd.mk (2 : Int) j [] (0 : Int) (0 : Int) (⟨#[]⟩ : ByteArray)), (aNd.mk (5 : Int) a m p q (⟨#[]⟩ : ByteArray))] af.2 ac.1 ac.2.2 true h)
 exact Turn.rp (.cons rfl (.cons rfl (.cons rfl (.cons rfl (.cons rfl (.cons rfl (.cons rfl (.cons rfl (.cons rfl (.nil _)))))))))) (.c (.s (.s .z)) (.c (.s (.s .z)) (.c (.s (.s .z)) (.n _))))
 refine TL'.step (.on rfl rfl rfl w) (OpT.move rfl (dk rfl) rfl ?_)
 refine TL'.step (.on rfl rfl rfl w) (OpT.str_eql rfl (dk rfl) rfl rfl ?_)
 refine sp rfl (OpT.pickF rfl (dk rfl) rfl w rfl ?_)
 refine aw rfl ?_
 refine TL'.nil (tN ?_)
 refine T.by_turn ?_ (l5_PrintTimes_j1_T K x2 y aa ab [(aNd.mk (2 : Int) j [] (0 : Int) (0 : Int) (⟨#[]⟩ : ByteArray)), (aNd.mk (5 : Int) a m p q (⟨#[]⟩ : ByteArray))] af.2 ac.1 ac.2.2 (af.1.toList == (⟨#[120, 63]⟩ : ByteArray).toList) h)
 exact Turn.rp (.cons rfl (.cons rfl (.cons rfl (.cons rfl (.cons rfl (.cons rfl (.cons rfl (.cons rfl (.cons rfl (.nil _)))))))))) (.c (.s (.s .z)) (.c (.s (.s .z)) (.c (.s (.s .z)) (.n _))))
theorem l5_PrintTimes_T (K : Nat) {x0 : Int} {x1 : Int} {x2 : Bool} {r : Bool} (h : l5_PrintTimes K x0 x1 x2 = some r) : CallR Tryd.prog 8 [.int .u16 x0, .int .u16 x1, .bool x2] [.tab 1 pow10V, .ro 2 deBruijnD, .ro 3 deBruijn32D] (.bool r) := by
 refine CallT.intro Tryd.func8 rfl (nb rfl) ?_
 show T Tryd.prog 96 (Code.at [] (codeOf Tryd.f8)) ⟨paramSlots 0 [.int .u16 x0, .int .u16 x1, .bool x2], [.tab 1 pow10V, .ro 2 deBruijnD, .ro 3 deBruijn32D]⟩ (l5_PrintTimes_q r)
 unfold l5_PrintTimes at h
 refine T.seq (T.rL ?_)
 refine aw rfl ?_
 refine TL'.nil (tN (T.seq (T.rL ?_)))
 obtain ⟨b, g, h⟩ := bind_some h
 refine sp rfl (OpT.callRoA rfl (dk rfl) Tryd.func11 rfl rfl Args.nil (.tab 0 rfl (.cons 1 rfl (.cons 2 rfl (.nil)))) (l5_shown_T K g) ?_)
 refine aw rfl ?_
 refine TL'.nil (tN (T.seq (T.rL ?_)))
 refine mw rfl ?_
 refine sp rfl (OpT.rem rfl (dk rfl) rfl rfl (by decide) ?_)
 refine sp rfl (OpT.convInt rfl (dk rfl) ul45 ul3 rfl ?_)
 refine mw rfl ?_
 refine sp rfl (OpT.rem rfl (dk rfl) rfl rfl (by decide) ?_)
 refine sp rfl (OpT.convInt rfl (dk rfl) ul45 ul3 rfl ?_)
 refine sp rfl (OpT.int2 rfl rfl (dk rfl) rfl rfl ?_)
 refine aw rfl ?_
 refine aw rfl ?_
 refine TL'.nil (tN (T.seq (T.rL ?_)))
 refine mw rfl ?_
 refine mw rfl ?_
 refine sp rfl (OpT.min2 rfl (dk rfl) rfl rfl ?_)
 refine aw rfl ?_
 refine TL'.nil (tN (T.seq (T.rL ?_)))
 refine sp rfl (OpT.buildSlice (elems := ([(0 : Int)] : List Int).map (cI .i64)) rfl (dk rfl) ul40 i3 (by decide) rfl (all1 rfl) rfl rfl rfl (lenAll rfl) (by decide) ?_)
 refine mw rfl ?_
 refine mw rfl ?_
 refine sp rfl (OpT.thenTurn (OpT.build (l := [.int .u8 (5 : Int), .int .u64 (Arr4.mk 0 0 0 0).a0, .int .u64 (Arr4.mk 0 0 0 0).a1, .int .u64 (Arr4.mk 0 0 0 0).a2, .int .u64 (Arr4.mk 0 0 0 0).a3, .sl true 1 ([(0 : Int)].map (cI .i64)), .int .i64 (if (wI ((wI (Int.tmod x1 (4096 : Int))) + (1 : Int))) < (wI (Int.tmod x0 (4097 : Int))) then (wI ((wI (Int.tmod x1 (4096 : Int))) + (1 : Int))) else (wI (Int.tmod x0 (4097 : Int)))), .int .i64 (wI ((wI (Int.tmod x1 (4096 : Int))) + (1 : Int))), .str (⟨#[]⟩ : ByteArray)]) rfl (dk rfl) (built_struct (pl := [(0, 1), (1, 4), (5, 1), (6, 1), (7, 1), (8, 1)]) ul42 i42 rfl) (all1 rfl) rfl rfl rfl) (Turn.weakSlotP 32 (l := [.int .u8 (5 : Int), .int .u64 (Arr4.mk 0 0 0 0).a0, .int .u64 (Arr4.mk 0 0 0 0).a1, .int .u64 (Arr4.mk 0 0 0 0).a2, .int .u64 (Arr4.mk 0 0 0 0).a3, .sl true 1 ([(0 : Int)].map (cI .i64)), .int .i64 (if (wI ((wI (Int.tmod x1 (4096 : Int))) + (1 : Int))) < (wI (Int.tmod x0 (4097 : Int))) then (wI ((wI (Int.tmod x1 (4096 : Int))) + (1 : Int))) else (wI (Int.tmod x0 (4097 : Int)))), .int .i64 (wI ((wI (Int.tmod x1 (4096 : Int))) + (1 : Int))), .str (⟨#[]⟩ : ByteArray)]) (l' := [.int .u8 (5 : Int), .int .u64 (Arr4.mk 0 0 0 0).a0, .int .u64 (Arr4.mk 0 0 0 0).a1, .int .u64 (Arr4.mk 0 0 0 0).a2, .int .u64 (Arr4.mk 0 0 0 0).a3, .sl false 1 ([(0 : Int)].map (cI .i64)), .int .i64 (if (wI ((wI (Int.tmod x1 (4096 : Int))) + (1 : Int))) < (wI (Int.tmod x0 (4097 : Int))) then (wI ((wI (Int.tmod x1 (4096 : Int))) + (1 : Int))) else (wI (Int.tmod x0 (4097 : Int)))), .int .i64 (wI ((wI (Int.tmod x1 (4096 : Int))) + (1 : Int))), .str (⟨#[]⟩ : ByteArray)]) (.cons (.same _) (.cons (.same _) (.cons (.same _) (.cons (.same _) (.cons (.same _) (.cons (.full _ _ _) (.cons (.same _) (.cons (.same _) (.cons (.same _) (.refl _))))))))))) ?_)
 refine sp rfl (OpT.alloc' rfl (dk rfl) i42 rfl (fun f => ?_))
 refine sp rfl (OpT.storeAggTo (i := 0) (cells' := [.d (.int .u8 (5 : Int)), .d (.int .u64 (Arr4.mk 0 0 0 0).a0), .d (.int .u64 (Arr4.mk 0 0 0 0).a1), .d (.int .u64 (Arr4.mk 0 0 0 0).a2), .d (.int .u64 (Arr4.mk 0 0 0 0).a3), .d (.sl false 1 ([(0 : Int)].map (cI .i64))), .d (.int .i64 (if (wI ((wI (Int.tmod x1 (4096 : Int))) + (1 : Int))) < (wI (Int.tmod x0 (4097 : Int))) then (wI ((wI (Int.tmod x1 (4096 : Int))) + (1 : Int))) else (wI (Int.tmod x0 (4097 : Int))))), .d (.int .i64 (wI ((wI (Int.tmod x1 (4096 : Int))) + (1 : Int)))), .d (.str (⟨#[]⟩ : ByteArray))]) rfl rfl i42 rfl rfl rfl rfl (nb rfl) rfl ?_)
 refine TL'.nil (tN ?_)
 refine T.seq ?_
 refine T.seq (T.rL ?_)
 refine mw rfl ?_
 refine TL'.nil (tN ?_)
 rcases bif_some h with ⟨a, h⟩ | ⟨a, h⟩
 refine T.condT rfl a ?_
 refine T.rL ?_
 refine sp rfl (OpT.fP rfl (dk rfl) ul42 rfl i3 (by decide) rfl ?_)
 refine sp rfl (OpT.sT (i := 0) (cells' := [.d (.int .u8 (5 : Int)), .d (.int .u64 (Arr4.mk 0 0 0 0).a0), .d (.int .u64 (Arr4.mk 0 0 0 0).a1), .d (.int .u64 (Arr4.mk 0 0 0 0).a2), .d (.int .u64 (Arr4.mk 0 0 0 0).a3), .d (.sl false 1 ([(0 : Int)].map (cI .i64))), .d (.int .i64 (if (wI ((wI (Int.tmod x1 (4096 : Int))) + (1 : Int))) < (wI (Int.tmod x0 (4097 : Int))) then (wI ((wI (Int.tmod x1 (4096 : Int))) + (1 : Int))) else (wI (Int.tmod x0 (4097 : Int))))), .d (.int .i64 (-1 : Int)), .d (.str (⟨#[]⟩ : ByteArray))]) rfl rfl i3 rfl rfl rfl (nb rfl) rfl ?_)
 refine TL'.nil (tN ?_)
 refine T.by_turn ?_ (l5_PrintTimes_j0_T K x2 b (if (wI ((wI (Int.tmod x1 (4096 : Int))) + (1 : Int))) < (wI (Int.tmod x0 (4097 : Int))) then (wI ((wI (Int.tmod x1 (4096 : Int))) + (1 : Int))) else (wI (Int.tmod x0 (4097 : Int)))) (wI ((wI (Int.tmod x1 (4096 : Int))) + (1 : Int))) (Arr4.mk 0 0 0 0) [(0 : Int)] (if (wI ((wI (Int.tmod x1 (4096 : Int))) + (1 : Int))) < (wI (Int.tmod x0 (4097 : Int))) then (wI ((wI (Int.tmod x1 (4096 : Int))) + (1 : Int))) else (wI (Int.tmod x0 (4097 : Int)))) (-1 : Int) f h)
 exact Turn.rp (.cons rfl (.cons rfl (.cons rfl (.cons rfl (.cons rfl (.nil _)))))) (.c .z (.c .z (.c .z (.c .z (.n _)))))
 refine T.condF rfl a ?_
 refine T.skip (tN ?_)
 refine T.by_turn ?_ (l5_PrintTimes_j0_T K x2 b (if (wI ((wI (Int.tmod x1 (4096 : Int))) + (1 : Int))) < (wI (Int.tmod x0 (4097 : Int))) then (wI ((wI (Int.tmod x1 (4096 : Int))) + (1 : Int))) else (wI (Int.tmod x0 (4097 : Int)))) (wI ((wI (Int.tmod x1 (4096 : Int))) + (1 : Int))) (Arr4.mk 0 0 0 0) [(0 : Int)] (if (wI ((wI (Int.tmod x1 (4096 : Int))) + (1 : Int))) < (wI (Int.tmod x0 (4097 : Int))) then (wI ((wI (Int.tmod x1 (4096 : Int))) + (1 : Int))) else (wI (Int.tmod x0 (4097 : Int)))) (wI ((wI (Int.tmod x1 (4096 : Int))) + (1 : Int))) f h)
 exact Turn.rp (.cons rfl (.cons rfl (.cons rfl (.cons rfl (.cons rfl (.nil _)))))) (.c .z (.c .z (.c .z (.c .z (.n _)))))
end Go.Rv

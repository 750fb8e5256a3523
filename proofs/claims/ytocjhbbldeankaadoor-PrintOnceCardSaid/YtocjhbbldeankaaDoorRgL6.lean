/- Each function computes what its plain text says: printed by a program of ours. -/
import Derived.Test.YtocjhbbldeankaaDoorRgW6
namespace Go.Rv
open Go.Proofs
set_option maxRecDepth 100000
set_option maxHeartbeats 4000000
set_option linter.unusedVariables false
abbrev l5_PrintOnce_q (r : Bool) : Exit → St → Prop := retS Tryd.prog Tryd.f6 (fun y t => y = (.bool r) ∧ t = [.tab 1 pow10V, .ro 2 deBruijnD, .ro 3 deBruijn32D])
theorem l5_PrintOnce_T (K : Nat) {x0 : ByteArray} {r : Bool} (h : l5_PrintOnce K x0 = some r) : CallR Tryd.prog 6 [.str x0] [.tab 1 pow10V, .ro 2 deBruijnD, .ro 3 deBruijn32D] (.bool r) := by
 refine CallT.intro Tryd.func6 rfl (nb rfl) ?_
 show T Tryd.prog 74 (Code.at [] (codeOf Tryd.f6)) ⟨paramSlots 0 [.str x0], [.tab 1 pow10V, .ro 2 deBruijnD, .ro 3 deBruijn32D]⟩ (l5_PrintOnce_q r)
 unfold l5_PrintOnce at h
 refine T.seq (T.rL ?_)
 refine aw rfl ?_
 refine TL'.nil (tN (T.seq (T.rL ?_)))
 obtain ⟨ab, s, h⟩ := bind_some h
 refine sp rfl (OpT.callRoA rfl (dk rfl) Tryd.func11 rfl rfl Args.nil (.tab 0 rfl (.cons 1 rfl (.cons 2 rfl (.nil)))) (l5_shown_T K s) ?_)
 refine aw rfl ?_
 refine TL'.nil (tN (T.seq (T.rL ?_)))
 refine mw rfl ?_
 refine mw rfl ?_
 refine sp rfl (OpT.lenStr rfl (dk rfl) ul9 rfl ?_)
 refine sp rfl (OpT.min2 rfl (dk rfl) rfl rfl ?_)
 obtain ⟨p, h⟩ := ck_some h
 refine sp rfl (OpT.sliceStr (l := 0) (h := (Int.toNat (if (300 : Int) < (x0.size : Int) then (300 : Int) else (x0.size : Int)))) rfl (dk rfl) ul9 rfl (.none _) (.some _ _ _ _ rfl p.1) p.2.1 p.2.2 ?_)
 obtain ⟨ac, u, h⟩ := bind_some h
 refine sp rfl (OpT.callPA rfl (dk rfl) Tryd.func17 rfl rfl (Args.cons rfl Args.nil) (CallR.nil (sy_Parse_T K u)) ?_)
 refine mw rfl ?_
 refine sp rfl (OpT.extract rfl (dk rfl) rfl rfl ?_)
 refine sp rfl (OpT.extract rfl (dk rfl) rfl rfl ?_)
 refine sp rfl (OpT.extract rfl (dk rfl) rfl rfl ?_)
 refine aw rfl ?_
 refine aw rfl ?_
 refine aw rfl ?_
 refine TL'.nil (tN ?_)
 refine T.seq ?_
 refine T.seq (T.rL ?_)
 refine mw rfl ?_
 refine sp rfl (OpT.int2 rfl rfl (dk rfl) rfl rfl ?_)
 refine TL'.nil (tN ?_)
 rcases bif_some h with ⟨q, h⟩ | ⟨q, h⟩
 refine T.condT rfl q ?_
 refine T.seq (T.rL ?_)
 refine mw rfl ?_
 refine aw rfl ?_
 refine TL'.nil (tN ?_)
 refine T.ret (thenS_ret ?_)
 exact Fin.doneK (.cons _ _ _ _ (.tmp 2 _ rfl) .nil) (.cons 0 rfl (.cons 0 rfl (.cons 0 rfl (.nil _)))) (by cases h; exact ⟨rfl, rfl⟩)
 refine T.condF rfl q ?_
 refine T.skip (tN ?_)
 refine T.seq (T.rL ?_)
 refine mw rfl ?_
 obtain ⟨ad, v, h⟩ := bind_some h
 refine sp rfl (OpT.callRoA rfl (dk rfl) Tryd.func9 rfl rfl (Args.cons rfl Args.nil) (.tab 0 rfl (.cons 1 rfl (.cons 2 rfl (.nil)))) (pT_T K (flx0 := false) v) ?_)
 refine mw rfl ?_
 refine sp rfl (OpT.extract rfl (dk rfl) rfl rfl ?_)
 refine sp rfl (OpT.extract rfl (dk rfl) rfl rfl ?_)
 refine aw rfl ?_
 refine aw rfl ?_
 refine TL'.nil (tN (T.seq (T.rL ?_)))
 refine mw rfl ?_
 obtain ⟨af, w, h⟩ := bind_some h
 refine sp rfl (OpT.callPA rfl (dk rfl) Tryd.func17 rfl rfl (Args.cons rfl Args.nil) (CallR.nil (sy_Parse_T K w)) ?_)
 refine mw rfl ?_
 refine sp rfl (OpT.extract rfl (dk rfl) rfl rfl ?_)
 refine sp rfl (OpT.extract rfl (dk rfl) rfl rfl ?_)
 refine sp rfl (OpT.extract rfl (dk rfl) rfl rfl ?_)
 refine aw rfl ?_
 refine aw rfl ?_
 refine aw rfl ?_
 refine TL'.nil (tN (T.seq (T.rL ?_)))
 refine mw rfl ?_
 obtain ⟨ag, y, h⟩ := bind_some h
 refine sp rfl (OpT.callRoA rfl (dk rfl) Tryd.func9 rfl rfl (Args.cons rfl Args.nil) (.tab 0 rfl (.cons 1 rfl (.cons 2 rfl (.nil)))) (pT_T K (flx0 := false) y) ?_)
 refine mw rfl ?_
 refine sp rfl (OpT.extract rfl (dk rfl) rfl rfl ?_)
 refine sp rfl (OpT.extract rfl (dk rfl) rfl rfl ?_)
 refine aw rfl ?_
 refine aw rfl ?_
 refine TL'.nil (tN (T.seq (T.rL ?_)))
 refine mw rfl ?_
 refine mw rfl ?_
 rcases bif_some h with ⟨j, h⟩ | ⟨j, h⟩
 refine TL'.step (.on rfl rfl rfl j) (OpT.move rfl (dk rfl) rfl ?_)
 refine sp rfl (OpT.pickT rfl (dk rfl) rfl j rfl ?_)
 refine mw rfl ?_
 rcases bif_some h with ⟨a, h⟩ | ⟨a, h⟩
 refine TL'.step (.on rfl rfl rfl a) (OpT.move rfl (dk rfl) rfl ?_)
 refine TL'.step (.on rfl rfl rfl a) (OpT.lenStr rfl (dk rfl) ul9 rfl ?_)
 refine TL'.step (.on rfl rfl rfl a) (OpT.int2 rfl rfl (dk rfl) rfl rfl ?_)
 refine TL'.step (.on rfl rfl rfl a) (OpT.move rfl (dk rfl) rfl ?_)
 rcases bif_some h with ⟨i, h⟩ | ⟨i, h⟩
 refine TL'.step (.on rfl rfl rfl i) (OpT.move rfl (dk rfl) rfl ?_)
 refine TL'.step (.on rfl rfl rfl i) (OpT.int2 rfl rfl (dk rfl) rfl rfl ?_)
 refine TL'.step (.on rfl rfl rfl a) (OpT.pickT rfl (dk rfl) rfl i rfl ?_)
 refine TL'.step (.on rfl rfl rfl a) (OpT.move rfl (dk rfl) rfl ?_)
 rcases bif_some h with ⟨b, h⟩ | ⟨b, h⟩
 refine TL'.pU (.off _ _ _ _ rfl rfl rfl b) (dk rfl) ?_
 refine TL'.pU (.off _ _ _ _ rfl rfl rfl b) (dk rfl) ?_
 refine TL'.pU (.off _ _ _ _ rfl rfl rfl b) (dk rfl) ?_
 refine TL'.pU (.gone _ _ _ rfl rfl rfl) (dk rfl) ?_
 refine TL'.pU (.off _ _ _ _ rfl rfl rfl b) (dk rfl) ?_
 refine TL'.pU (.off _ _ _ _ rfl rfl rfl b) (dk rfl) ?_
 refine TL'.pU (.gone _ _ _ rfl rfl rfl) (dk rfl) ?_
 refine TL'.pU (.gone _ _ _ rfl rfl rfl) (dk rfl) ?_
 refine TL'.pU (.gone _ _ _ rfl rfl rfl) (dk rfl) ?_
 refine TL'.pU (.off _ _ _ _ rfl rfl rfl b) (dk rfl) ?_
 refine TL'.pU (.off _ _ _ _ rfl rfl rfl b) (dk rfl) ?_
 refine TL'.pU (.gone _ _ _ rfl rfl rfl) (dk rfl) ?_
 refine TL'.pU (.gone _ _ _ rfl rfl rfl) (dk rfl) ?_
 refine TL'.pU (.gone _ _ _ rfl rfl rfl) (dk rfl) ?_
 refine TL'.pU (.off _ _ _ _ rfl rfl rfl b) (dk rfl) ?_
 refine TL'.step (.on rfl rfl rfl a) (OpT.pickT rfl (dk rfl) rfl b rfl ?_)
 refine sp rfl (OpT.pickT rfl (dk rfl) rfl a rfl ?_)
 refine aw rfl ?_
 refine TL'.nil (tN ?_)
 refine T.ret ?_
 exact Fin.doneK (.cons _ _ _ _ (.tmp 2 _ rfl) .nil) (.cons 0 rfl (.cons 0 rfl (.cons 0 rfl (.nil _)))) (by cases h; exact ⟨rfl, rfl⟩)
 refine TL'.step (.on rfl rfl rfl b) (OpT.move rfl (dk rfl) rfl ?_)
 refine TL'.step (.on rfl rfl rfl b) (OpT.int2 rfl rfl (dk rfl) rfl rfl ?_)
 refine TL'.step (.on rfl rfl rfl b) (OpT.move rfl (dk rfl) rfl ?_)
 rcases bif_some h with ⟨m, h⟩ | ⟨m, h⟩
 refine TL'.step (.on rfl rfl rfl m) (OpT.move rfl (dk rfl) rfl ?_)
 refine TL'.step (.on rfl rfl rfl b) (OpT.pickT rfl (dk rfl) rfl m rfl ?_)
 refine TL'.step (.on rfl rfl rfl b) (OpT.move rfl (dk rfl) rfl ?_)
 rcases bif_some h with ⟨c, h⟩ | ⟨c, h⟩
 refine TL'.step (.on rfl rfl rfl c) (OpT.move rfl (dk rfl) rfl ?_)
 refine TL'.step (.on rfl rfl rfl c) (OpT.move rfl (dk rfl) rfl ?_)
 refine TL'.step (.on rfl rfl rfl c) (OpT.str_eql rfl (dk rfl) rfl rfl ?_)
 refine TL'.step (.on rfl rfl rfl b) (OpT.pickT rfl (dk rfl) rfl c rfl ?_)
 refine TL'.step (.on rfl rfl rfl b) (OpT.move rfl (dk rfl) rfl ?_)
 rcases bif_some h with ⟨d, h⟩ | ⟨d, h⟩
 refine TL'.step (.on rfl rfl rfl d) (OpT.move rfl (dk rfl) rfl ?_)
 refine TL'.step (.on rfl rfl rfl d) (OpT.move rfl (dk rfl) rfl ?_)
 obtain ⟨ai, z, h⟩ := bind_some h
 refine TL'.step (.on rfl rfl rfl d) (OpT.callPA rfl (dk rfl) Tryd.func18 rfl rfl (Args.cons rfl (Args.cons rfl Args.nil)) (CallR.nil (r4_Same_T K (flx0 := false) (flx1 := false) z)) ?_)
 refine TL'.step (.on rfl rfl rfl b) (OpT.pickT rfl (dk rfl) rfl d rfl ?_)
 refine TL'.step (.on rfl rfl rfl a) (OpT.pickF rfl (dk rfl) rfl b rfl ?_)
 refine sp rfl (OpT.pickT rfl (dk rfl) rfl a rfl ?_)
 refine aw rfl ?_
 refine TL'.nil (tN ?_)
 refine T.ret ?_
 exact Fin.doneK (.cons _ _ _ _ (.tmp 2 _ rfl) .nil) (.cons 0 rfl (.cons 0 rfl (.cons 0 rfl (.nil _)))) (by cases h; exact ⟨rfl, rfl⟩)
 refine TL'.pU (.off _ _ _ _ rfl rfl rfl d) (dk rfl) ?_
 refine TL'.pU (.off _ _ _ _ rfl rfl rfl d) (dk rfl) ?_
 refine TL'.pU (.off _ _ _ _ rfl rfl rfl d) (dk rfl) ?_
 refine TL'.step (.on rfl rfl rfl b) (OpT.pickF rfl (dk rfl) rfl d rfl ?_)
 refine TL'.step (.on rfl rfl rfl a) (OpT.pickF rfl (dk rfl) rfl b rfl ?_)
 refine sp rfl (OpT.pickT rfl (dk rfl) rfl a rfl ?_)
 refine aw rfl ?_
 refine TL'.nil (tN ?_)
 refine T.ret ?_
 exact Fin.doneK (.cons _ _ _ _ (.tmp 2 _ rfl) .nil) (.cons 0 rfl (.cons 0 rfl (.cons 0 rfl (.nil _)))) (by cases h; exact ⟨rfl, rfl⟩)
 refine TL'.pU (.off _ _ _ _ rfl rfl rfl c) (dk rfl) ?_
 refine TL'.pU (.off _ _ _ _ rfl rfl rfl c) (dk rfl) ?_
 refine TL'.pU (.off _ _ _ _ rfl rfl rfl c) (dk rfl) ?_
 refine TL'.step (.on rfl rfl rfl b) (OpT.pickF rfl (dk rfl) rfl c rfl ?_)
 refine TL'.step (.on rfl rfl rfl b) (OpT.move rfl (dk rfl) rfl ?_)
 refine TL'.pU (.off _ _ _ _ rfl rfl rfl rfl) (dk rfl) ?_
 refine TL'.pU (.off _ _ _ _ rfl rfl rfl rfl) (dk rfl) ?_
 refine TL'.pU (.off _ _ _ _ rfl rfl rfl rfl) (dk rfl) ?_
 refine TL'.step (.on rfl rfl rfl b) (OpT.pickF rfl (dk rfl) rfl rfl rfl ?_)
 refine TL'.step (.on rfl rfl rfl a) (OpT.pickF rfl (dk rfl) rfl b rfl ?_)
 refine sp rfl (OpT.pickT rfl (dk rfl) rfl a rfl ?_)
 refine aw rfl ?_
 refine TL'.nil (tN ?_)
 refine T.ret ?_
 exact Fin.doneK (.cons _ _ _ _ (.tmp 2 _ rfl) .nil) (.cons 0 rfl (.cons 0 rfl (.cons 0 rfl (.nil _)))) (by cases h; exact ⟨rfl, rfl⟩)
 refine TL'.pU (.off _ _ _ _ rfl rfl rfl m) (dk rfl) ?_
 refine TL'.step (.on rfl rfl rfl b) (OpT.pickF rfl (dk rfl) rfl m rfl ?_)
 refine TL'.step (.on rfl rfl rfl b) (OpT.move rfl (dk rfl) rfl ?_)
 refine TL'.pU (.off _ _ _ _ rfl rfl rfl rfl) (dk rfl) ?_
 refine TL'.pU (.off _ _ _ _ rfl rfl rfl rfl) (dk rfl) ?_
 refine TL'.pU (.off _ _ _ _ rfl rfl rfl rfl) (dk rfl) ?_
 refine TL'.step (.on rfl rfl rfl b) (OpT.pickF rfl (dk rfl) rfl rfl rfl ?_)
 refine TL'.step (.on rfl rfl rfl b) (OpT.move rfl (dk rfl) rfl ?_)
 refine TL'.pU (.off _ _ _ _ rfl rfl rfl rfl) (dk rfl) ?_
 refine TL'.pU (.off _ _ _ _ rfl rfl rfl rfl) (dk rfl) ?_
 refine TL'.pU (.off _ _ _ _ rfl rfl rfl rfl) (dk rfl) ?_
 refine TL'.step (.on rfl rfl rfl b) (OpT.pickF rfl (dk rfl) rfl rfl rfl ?_)
 refine TL'.step (.on rfl rfl rfl a) (OpT.pickF rfl (dk rfl) rfl b rfl ?_)
 refine sp rfl (OpT.pickT rfl (dk rfl) rfl a rfl ?_)
 refine aw rfl ?_
 refine TL'.nil (tN ?_)
 refine T.ret ?_
 exact Fin.doneK (.cons _ _ _ _ (.tmp 2 _ rfl) .nil) (.cons 0 rfl (.cons 0 rfl (.cons 0 rfl (.nil _)))) (by cases h; exact ⟨rfl, rfl⟩)
 refine TL'.pU (.off _ _ _ _ rfl rfl rfl i) (dk rfl) ?_
 refine TL'.pU (.off _ _ _ _ rfl rfl rfl i) (dk rfl) ?_
 refine TL'.step (.on rfl rfl rfl a) (OpT.pickF rfl (dk rfl) rfl i rfl ?_)
 refine TL'.step (.on rfl rfl rfl a) (OpT.move rfl (dk rfl) rfl ?_)
 refine TL'.step (.on rfl rfl rfl rfl) (OpT.move rfl (dk rfl) rfl ?_)
 refine TL'.step (.on rfl rfl rfl rfl) (OpT.int2 rfl rfl (dk rfl) rfl rfl ?_)
 refine TL'.step (.on rfl rfl rfl rfl) (OpT.move rfl (dk rfl) rfl ?_)
 rcases bif_some h with ⟨n, h⟩ | ⟨n, h⟩
 refine TL'.step (.on rfl rfl rfl n) (OpT.move rfl (dk rfl) rfl ?_)
 refine TL'.step (.on rfl rfl rfl rfl) (OpT.pickT rfl (dk rfl) rfl n rfl ?_)
 refine TL'.step (.on rfl rfl rfl rfl) (OpT.move rfl (dk rfl) rfl ?_)
 rcases bif_some h with ⟨f, h⟩ | ⟨f, h⟩
 refine TL'.step (.on rfl rfl rfl f) (OpT.move rfl (dk rfl) rfl ?_)
 refine TL'.step (.on rfl rfl rfl f) (OpT.move rfl (dk rfl) rfl ?_)
 refine TL'.step (.on rfl rfl rfl f) (OpT.str_eql rfl (dk rfl) rfl rfl ?_)
 refine TL'.step (.on rfl rfl rfl rfl) (OpT.pickT rfl (dk rfl) rfl f rfl ?_)
 refine TL'.step (.on rfl rfl rfl rfl) (OpT.move rfl (dk rfl) rfl ?_)
 rcases bif_some h with ⟨g, h⟩ | ⟨g, h⟩
 refine TL'.step (.on rfl rfl rfl g) (OpT.move rfl (dk rfl) rfl ?_)
 refine TL'.step (.on rfl rfl rfl g) (OpT.move rfl (dk rfl) rfl ?_)
 obtain ⟨aj, aa, h⟩ := bind_some h
 refine TL'.step (.on rfl rfl rfl g) (OpT.callPA rfl (dk rfl) Tryd.func18 rfl rfl (Args.cons rfl (Args.cons rfl Args.nil)) (CallR.nil (r4_Same_T K (flx0 := false) (flx1 := false) aa)) ?_)
 refine TL'.step (.on rfl rfl rfl rfl) (OpT.pickT rfl (dk rfl) rfl g rfl ?_)
 refine TL'.step (.on rfl rfl rfl a) (OpT.pickF rfl (dk rfl) rfl rfl rfl ?_)
 refine sp rfl (OpT.pickT rfl (dk rfl) rfl a rfl ?_)
 refine aw rfl ?_
 refine TL'.nil (tN ?_)
 refine T.ret ?_
 exact Fin.doneK (.cons _ _ _ _ (.tmp 2 _ rfl) .nil) (.cons 0 rfl (.cons 0 rfl (.cons 0 rfl (.nil _)))) (by cases h; exact ⟨rfl, rfl⟩)
 refine TL'.pU (.off _ _ _ _ rfl rfl rfl g) (dk rfl) ?_
 refine TL'.pU (.off _ _ _ _ rfl rfl rfl g) (dk rfl) ?_
 refine TL'.pU (.off _ _ _ _ rfl rfl rfl g) (dk rfl) ?_
 refine TL'.step (.on rfl rfl rfl rfl) (OpT.pickF rfl (dk rfl) rfl g rfl ?_)
 refine TL'.step (.on rfl rfl rfl a) (OpT.pickF rfl (dk rfl) rfl rfl rfl ?_)
 refine sp rfl (OpT.pickT rfl (dk rfl) rfl a rfl ?_)
 refine aw rfl ?_
 refine TL'.nil (tN ?_)
 refine T.ret ?_
 exact Fin.doneK (.cons _ _ _ _ (.tmp 2 _ rfl) .nil) (.cons 0 rfl (.cons 0 rfl (.cons 0 rfl (.nil _)))) (by cases h; exact ⟨rfl, rfl⟩)
 refine TL'.pU (.off _ _ _ _ rfl rfl rfl f) (dk rfl) ?_
 refine TL'.pU (.off _ _ _ _ rfl rfl rfl f) (dk rfl) ?_
 refine TL'.pU (.off _ _ _ _ rfl rfl rfl f) (dk rfl) ?_
 refine TL'.step (.on rfl rfl rfl rfl) (OpT.pickF rfl (dk rfl) rfl f rfl ?_)
 refine TL'.step (.on rfl rfl rfl rfl) (OpT.move rfl (dk rfl) rfl ?_)
 refine TL'.pU (.off _ _ _ _ rfl rfl rfl rfl) (dk rfl) ?_
 refine TL'.pU (.off _ _ _ _ rfl rfl rfl rfl) (dk rfl) ?_
 refine TL'.pU (.off _ _ _ _ rfl rfl rfl rfl) (dk rfl) ?_
 refine TL'.step (.on rfl rfl rfl rfl) (OpT.pickF rfl (dk rfl) rfl rfl rfl ?_)
 refine TL'.step (.on rfl rfl rfl a) (OpT.pickF rfl (dk rfl) rfl rfl rfl ?_)
 refine sp rfl (OpT.pickT rfl (dk rfl) rfl a rfl ?_)
 refine aw rfl ?_
 refine TL'.nil (tN ?_)
 refine T.ret ?_
 exact Fin.doneK (.cons _ _ _ _ (.tmp 2 _ rfl) .nil) (.cons 0 rfl (.cons 0 rfl (.cons 0 rfl (.nil _)))) (by cases h; exact ⟨rfl, rfl⟩)
 refine TL'.pU (.off _ _ _ _ rfl rfl rfl n) (dk rfl) ?_
 refine TL'.step (.on rfl rfl rfl rfl) (OpT.pickF rfl (dk rfl) rfl n rfl ?_)
 refine TL'.step (.on rfl rfl rfl rfl) (OpT.move rfl (dk rfl) rfl ?_)
 refine TL'.pU (.off _ _ _ _ rfl rfl rfl rfl) (dk rfl) ?_
 refine TL'.pU (.off _ _ _ _ rfl rfl rfl rfl) (dk rfl) ?_
 refine TL'.pU (.off _ _ _ _ rfl rfl rfl rfl) (dk rfl) ?_
 refine TL'.step (.on rfl rfl rfl rfl) (OpT.pickF rfl (dk rfl) rfl rfl rfl ?_)
 refine TL'.step (.on rfl rfl rfl rfl) (OpT.move rfl (dk rfl) rfl ?_)
 refine TL'.pU (.off _ _ _ _ rfl rfl rfl rfl) (dk rfl) ?_
 refine TL'.pU (.off _ _ _ _ rfl rfl rfl rfl) (dk rfl) ?_
 refine TL'.pU (.off _ _ _ _ rfl rfl rfl rfl) (dk rfl) ?_
 refine TL'.step (.on rfl rfl rfl rfl) (OpT.pickF rfl (dk rfl) rfl rfl rfl ?_)
 refine TL'.step (.on rfl rfl rfl a) (OpT.pickF rfl (dk rfl) rfl rfl rfl ?_)
 refine sp rfl (OpT.pickT rfl (dk rfl) rfl a rfl ?_)
 refine aw rfl ?_
 refine TL'.nil (tN ?_)
 refine T.ret ?_
 exact Fin.doneK (.cons _ _ _ _ (.tmp 2 _ rfl) .nil) (.cons 0 rfl (.cons 0 rfl (.cons 0 rfl (.nil _)))) (by cases h; exact ⟨rfl, rfl⟩)
 refine TL'.pU (.off _ _ _ _ rfl rfl rfl a) (dk rfl) ?_
 refine TL'.pU (.off _ _ _ _ rfl rfl rfl a) (dk rfl) ?_
 refine TL'.pU (.off _ _ _ _ rfl rfl rfl a) (dk rfl) ?_
 refine TL'.pU (.off _ _ _ _ rfl rfl rfl a) (dk rfl) ?_
 refine TL'.pU (.gone _ _ _ rfl rfl rfl) (dk rfl) ?_
 refine TL'.pU (.gone _ _ _ rfl rfl rfl) (dk rfl) ?_
 refine TL'.pU (.off _ _ _ _ rfl rfl rfl a) (dk rfl) ?_
 refine TL'.pU (.off _ _ _ _ rfl rfl rfl a) (dk rfl) ?_
 refine TL'.pU (.gone _ _ _ rfl rfl rfl) (dk rfl) ?_
 refine TL'.pU (.gone _ _ _ rfl rfl rfl) (dk rfl) ?_
 refine TL'.pU (.gone _ _ _ rfl rfl rfl) (dk rfl) ?_
 refine TL'.pU (.gone _ _ _ rfl rfl rfl) (dk rfl) ?_
 refine TL'.pU (.gone _ _ _ rfl rfl rfl) (dk rfl) ?_
 refine TL'.pU (.gone _ _ _ rfl rfl rfl) (dk rfl) ?_
 refine TL'.pU (.gone _ _ _ rfl rfl rfl) (dk rfl) ?_
 refine TL'.pU (.gone _ _ _ rfl rfl rfl) (dk rfl) ?_
 refine TL'.pU (.gone _ _ _ rfl rfl rfl) (dk rfl) ?_
 refine TL'.pU (.gone _ _ _ rfl rfl rfl) (dk rfl) ?_
 refine TL'.pU (.gone _ _ _ rfl rfl rfl) (dk rfl) ?_
 refine TL'.pU (.gone _ _ _ rfl rfl rfl) (dk rfl) ?_
 refine TL'.pU (.gone _ _ _ rfl rfl rfl) (dk rfl) ?_
 refine TL'.pU (.gone _ _ _ rfl rfl rfl) (dk rfl) ?_
 refine TL'.pU (.gone _ _ _ rfl rfl rfl) (dk rfl) ?_
 refine TL'.pU (.off _ _ _ _ rfl rfl rfl a) (dk rfl) ?_
 refine sp rfl (OpT.pickF rfl (dk rfl) rfl a rfl ?_)
 refine aw rfl ?_
 refine TL'.nil (tN ?_)
 refine T.ret ?_
 exact Fin.doneK (.cons _ _ _ _ (.tmp 2 _ rfl) .nil) (.cons 0 rfl (.cons 0 rfl (.cons 0 rfl (.nil _)))) (by cases h; exact ⟨rfl, rfl⟩)
 refine TL'.pU (.off _ _ _ _ rfl rfl rfl j) (dk rfl) ?_
 refine sp rfl (OpT.pickF rfl (dk rfl) rfl j rfl ?_)
 refine mw rfl ?_
 refine TL'.pU (.off _ _ _ _ rfl rfl rfl rfl) (dk rfl) ?_
 refine TL'.pU (.off _ _ _ _ rfl rfl rfl rfl) (dk rfl) ?_
 refine TL'.pU (.off _ _ _ _ rfl rfl rfl rfl) (dk rfl) ?_
 refine TL'.pU (.off _ _ _ _ rfl rfl rfl rfl) (dk rfl) ?_
 refine TL'.pU (.gone _ _ _ rfl rfl rfl) (dk rfl) ?_
 refine TL'.pU (.gone _ _ _ rfl rfl rfl) (dk rfl) ?_
 refine TL'.pU (.off _ _ _ _ rfl rfl rfl rfl) (dk rfl) ?_
 refine TL'.pU (.off _ _ _ _ rfl rfl rfl rfl) (dk rfl) ?_
 refine TL'.pU (.gone _ _ _ rfl rfl rfl) (dk rfl) ?_
 refine TL'.pU (.gone _ _ _ rfl rfl rfl) (dk rfl) ?_
 refine TL'.pU (.gone _ _ _ rfl rfl rfl) (dk rfl) ?_
 refine TL'.pU (.gone _ _ _ rfl rfl rfl) (dk rfl) ?_
 refine TL'.pU (.gone _ _ _ rfl rfl rfl) (dk rfl) ?_
 refine TL'.pU (.gone _ _ _ rfl rfl rfl) (dk rfl) ?_
 refine TL'.pU (.gone _ _ _ rfl rfl rfl) (dk rfl) ?_
 refine TL'.pU (.gone _ _ _ rfl rfl rfl) (dk rfl) ?_
 refine TL'.pU (.gone _ _ _ rfl rfl rfl) (dk rfl) ?_
 refine TL'.pU (.gone _ _ _ rfl rfl rfl) (dk rfl) ?_
 refine TL'.pU (.gone _ _ _ rfl rfl rfl) (dk rfl) ?_
 refine TL'.pU (.gone _ _ _ rfl rfl rfl) (dk rfl) ?_
 refine TL'.pU (.gone _ _ _ rfl rfl rfl) (dk rfl) ?_
 refine TL'.pU (.gone _ _ _ rfl rfl rfl) (dk rfl) ?_
 refine TL'.pU (.gone _ _ _ rfl rfl rfl) (dk rfl) ?_
 refine TL'.pU (.off _ _ _ _ rfl rfl rfl rfl) (dk rfl) ?_
 refine sp rfl (OpT.pickF rfl (dk rfl) rfl rfl rfl ?_)
 refine aw rfl ?_
 refine TL'.nil (tN ?_)
 refine T.ret ?_
 exact Fin.doneK (.cons _ _ _ _ (.tmp 2 _ rfl) .nil) (.cons 0 rfl (.cons 0 rfl (.cons 0 rfl (.nil _)))) (by cases h; exact ⟨rfl, rfl⟩)
end Go.Rv

/- Each function computes what its plain text says: printed by a program of ours. -/
import Derived.Test.YtocjhbbldeankaaDoorRgW6
namespace Go.Rv
open Go.Proofs
set_option maxRecDepth 100000
set_option maxHeartbeats 4000000
set_option linter.unusedVariables false
abbrev l5_PrintBack_q (r : Bool) : Exit → St → Prop := retS Tryd.prog Tryd.f5 (fun y t => y = (.bool r) ∧ t = [.tab 1 pow10V, .ro 2 deBruijnD, .ro 3 deBruijn32D])
abbrev l5_PrintBack_qs11111 (r : Bool) : Exit → St → Prop := thenS (fun s' => T Tryd.prog 75 (Code.at [1, 1, 1, 1, 1] (codeOf Tryd.f5)) s' ((l5_PrintBack_q r))) ((l5_PrintBack_q r))
abbrev l5_PrintBack_qs11111111 (r : Bool) : Exit → St → Prop := thenS (fun s' => T Tryd.prog 75 (Code.at [1, 1, 1, 1, 1, 1, 1, 1] (codeOf Tryd.f5)) s' ((l5_PrintBack_q r))) ((l5_PrintBack_q r))
abbrev l5_PrintBack_qs1111111 (r : Bool) : Exit → St → Prop := thenS (fun s' => T Tryd.prog 75 (Code.at [1, 1, 1, 1, 1, 1, 1] (codeOf Tryd.f5)) s' ((l5_PrintBack_q r))) ((l5_PrintBack_q r))
abbrev l5_PrintBack_qb0x1111111 (r : Bool) : Exit → St → Prop := inBlockS 0 ((l5_PrintBack_qs1111111 r))
theorem l5_PrintBack_j0_T {r : Bool} (K : Nat) (a : Bool) (h : l5_PrintBack_j0 K a = some r) : T Tryd.prog 75 (Code.at [1, 1, 1, 1, 0, 1, 0, 1] (codeOf Tryd.f5)) ⟨[(2, .bool a)], [.tab 1 pow10V, .ro 2 deBruijnD, .ro 3 deBruijn32D]⟩ (l5_PrintBack_qs11111 r) := by
 unfold l5_PrintBack_j0 at h
 refine T.ret (thenS_ret ?_)
 exact Fin.doneK (.cons _ _ _ _ (.tmp 2 _ rfl) .nil) (.cons 0 rfl (.cons 0 rfl (.cons 0 rfl (.nil _)))) (by cases h; exact ⟨rfl, rfl⟩)
theorem l5_PrintBack_j2_T {r : Bool} (K : Nat) (a : Bool) (h : l5_PrintBack_j2 K a = some r) : T Tryd.prog 75 (Code.at [1, 1, 1, 1, 1, 1, 1, 0, 1, 0] (codeOf Tryd.f5)) ⟨[(3, .bool a)], [.tab 1 pow10V, .ro 2 deBruijnD, .ro 3 deBruijn32D]⟩ (l5_PrintBack_qs11111111 r) := by
 unfold l5_PrintBack_j2 at h
 refine T.seq (T.rL ?_)
 refine mw rfl ?_
 refine aw rfl ?_
 refine TL'.nil (tN ?_)
 refine T.ret (thenS_ret ?_)
 exact Fin.doneK (.cons _ _ _ _ (.tmp 2 _ rfl) .nil) (.cons 0 rfl (.cons 0 rfl (.cons 0 rfl (.nil _)))) (by cases h; exact ⟨rfl, rfl⟩)
theorem l5_PrintBack_l1_T {r : Bool} (K : Nat) : ∀ (k : Nat), ∀ (b : Bool) (i : List aNd) (j : ByteArray) (l : Int) (m : Int) (p : Int), l5_PrintBack_l1 K k b i j l m p = some r → TL Tryd.prog 75 (Code.at [1, 1, 1, 1, 1, 1, 0, 1, 0, 0] (codeOf Tryd.f5)) ⟨[(3, .bool b), (4, .sl false 9 (i.map c_aNd)), (5, .str j), (7, .int .i64 l), (36, .int .i64 m), (37, .int .i64 p)], [.tab 1 pow10V, .ro 2 deBruijnD, .ro 3 deBruijn32D]⟩ (l5_PrintBack_qb0x1111111 r) := by
  intro k
  induction k with
  | zero =>
    intro b i j l m p h
    cases (show (none : Option Bool) = some r from h)
  | succ k ih =>
    intro b i j l m p h
    rw [l5_PrintBack_l1] at h
    refine TL.round ?_
    refine T.seq ?_
    refine T.rL ?_
    refine sp rfl (OpT.int2 rfl rfl (dl rfl rfl) rfl rfl ?_)
    refine TL'.nil (tN ?_)
    refine T.seq ?_
    rcases bif_some h with ⟨q, h⟩ | ⟨q, h⟩
    · refine T.condT rfl q ?_
      refine T.skip (tN ?_)
      refine T.seq ?_
      refine T.block ?_
      refine T.seq ?_
      refine T.rL ?_
      refine mv rfl rfl rfl rfl rfl ?_
      refine asg rfl rfl rfl rfl rfl ?_
      refine TL'.nil (tN ?_)
      refine T.seq ?_
      refine T.rL ?_
      refine mv rfl rfl rfl rfl rfl ?_
      refine mv rfl rfl rfl rfl rfl ?_
      obtain ⟨v, h⟩ := ck_some h
      refine sp rfl (OpT.indexStr rfl (dl rfl rfl) Tryd.underlying9 rfl rfl v.1 v.2 ?_)
      refine sp rfl (OpT.int2 rfl rfl (dl rfl rfl) rfl rfl ?_)
      refine TL'.nil (tN ?_)
      rcases bif_some h with ⟨s, h⟩ | ⟨s, h⟩
      · refine T.condT rfl s ?_
        refine T.rL ?_
        refine mv rfl rfl rfl rfl rfl ?_
        refine sp rfl (OpT.int2 rfl rfl (dl rfl rfl) rfl rfl ?_)
        refine asg rfl rfl rfl rfl rfl ?_
        refine TL'.nil (inBlock_normal (tN ?_))
        refine T.rL ?_
        refine sp rfl (OpT.int2 rfl rfl (dl rfl rfl) rfl rfl ?_)
        refine mv rfl rfl rfl rfl rfl ?_
        refine TL'.nil (tN ?_)
        refine TL.by_turn ?_ (ih b i j (wI (l + (1 : Int))) m (wI (p + (1 : Int))) h)
        exact Turn.rp (.cons rfl (.cons rfl (.cons rfl (.cons rfl (.cons rfl (.cons rfl (.nil _))))))) (.c .z (.c .z (.c .z (.n _))))
      · refine T.condF rfl s ?_
        refine T.skip (inBlock_normal (tN ?_))
        refine T.rL ?_
        refine sp rfl (OpT.int2 rfl rfl (dl rfl rfl) rfl rfl ?_)
        refine mv rfl rfl rfl rfl rfl ?_
        refine TL'.nil (tN ?_)
        refine TL.by_turn ?_ (ih b i j l m (wI (p + (1 : Int))) h)
        exact Turn.rp (.cons rfl (.cons rfl (.cons rfl (.cons rfl (.cons rfl (.cons rfl (.nil _))))))) (.c .z (.c .z (.c .z (.n _))))
    · refine T.condF rfl q ?_
      refine T.exit (thenS_exit (thenS_exit (inBlock_exit (tN ?_))))
      refine T.seq ?_
      refine T.seq ?_
      refine T.rL ?_
      refine mv rfl rfl rfl rfl rfl ?_
      refine sp rfl (OpT.lenStr rfl (dl rfl rfl) Tryd.underlying9 rfl ?_)
      refine sp rfl (OpT.int2 rfl rfl (dl rfl rfl) rfl rfl ?_)
      refine mv rfl rfl rfl rfl rfl ?_
      rcases bif_some h with ⟨d, h⟩ | ⟨d, h⟩
      · refine TL'.pU (.off _ _ _ _ rfl rfl rfl d) (dl rfl rfl) ?_
        refine TL'.pU (.off _ _ _ _ rfl rfl rfl d) (dl rfl rfl) ?_
        refine sp rfl (OpT.pickT rfl (dl rfl rfl) rfl d rfl ?_)
        refine TL'.nil (tN ?_)
        refine T.condT rfl rfl ?_
        refine T.by_turn ?_ (l5_PrintBack_j2_T K b h)
        exact Turn.rp (.cons rfl (.nil _)) (.c .z (.c .z (.c .z (.n _))))
      · refine TL'.step (.on rfl rfl rfl d) (OpT.move rfl (dl rfl rfl) rfl ?_)
        refine TL'.step (.on rfl rfl rfl d) (OpT.int2 rfl rfl (dl rfl rfl) rfl rfl ?_)
        refine sp rfl (OpT.pickF rfl (dl rfl rfl) rfl d rfl ?_)
        refine TL'.nil (tN ?_)
        rcases bif_some h with ⟨u, h⟩ | ⟨u, h⟩
        · refine T.condT rfl u ?_
          refine T.by_turn ?_ (l5_PrintBack_j2_T K b h)
          exact Turn.rp (.cons rfl (.nil _)) (.c .z (.c .z (.c .z (.n _))))
        · refine T.condF rfl u ?_
          refine T.skip (tN ?_)
          refine T.seq ?_
          refine T.rL ?_
          refine mv rfl rfl rfl rfl rfl ?_
          obtain ⟨aa, w, h⟩ := bind_some h
          refine sp rfl (OpT.callPA rfl (dl rfl rfl) Tryd.func17 rfl rfl (Args.cons rfl Args.nil) (CallR.nil (sy_Parse_T K w)) ?_)
          refine mv rfl rfl rfl rfl rfl ?_
          refine sp rfl (OpT.extract rfl (dl rfl rfl) rfl rfl ?_)
          refine sp rfl (OpT.extract rfl (dl rfl rfl) rfl rfl ?_)
          refine sp rfl (OpT.extract rfl (dl rfl rfl) rfl rfl ?_)
          refine asg rfl rfl rfl rfl rfl ?_
          refine asg rfl rfl rfl rfl rfl ?_
          refine asg rfl rfl rfl rfl rfl ?_
          refine TL'.nil (tN ?_)
          refine T.seq ?_
          refine T.rL ?_
          refine mv rfl rfl rfl rfl rfl ?_
          refine mv rfl rfl rfl rfl rfl ?_
          rcases bif_some h with ⟨f, h⟩ | ⟨f, h⟩
          · refine TL'.step (.on rfl rfl rfl f) (OpT.move rfl (dl rfl rfl) rfl ?_)
            refine TL'.step (.on rfl rfl rfl f) (OpT.int2 rfl rfl (dl rfl rfl) rfl rfl ?_)
            refine sp rfl (OpT.pickT rfl (dl rfl rfl) rfl f rfl ?_)
            refine mv rfl rfl rfl rfl rfl ?_
            rcases bif_some h with ⟨g, h⟩ | ⟨g, h⟩
            · refine TL'.step (.on rfl rfl rfl g) (OpT.move rfl (dl rfl rfl) rfl ?_)
              refine TL'.step (.on rfl rfl rfl g) (OpT.int2 rfl rfl (dl rfl rfl) rfl rfl ?_)
              refine sp rfl (OpT.pickT rfl (dl rfl rfl) rfl g rfl ?_)
              refine mv rfl rfl rfl rfl rfl ?_
              rcases bif_some h with ⟨a, h⟩ | ⟨a, h⟩
              · refine TL'.step (.on rfl rfl rfl a) (OpT.move rfl (dl rfl rfl) rfl ?_)
                refine TL'.step (.on rfl rfl rfl a) (OpT.move rfl (dl rfl rfl) rfl ?_)
                obtain ⟨ab, y, h⟩ := bind_some h
                refine TL'.step (.on rfl rfl rfl a) (OpT.callPA rfl (dl rfl rfl) Tryd.func18 rfl rfl (Args.cons rfl (Args.cons rfl Args.nil)) (CallR.nil (r4_Same_T K (flx0 := false) (flx1 := false) y)) ?_)
                refine sp rfl (OpT.pickT rfl (dl rfl rfl) rfl a rfl ?_)
                refine asg rfl rfl rfl rfl rfl ?_
                refine TL'.nil (tN ?_)
                refine T.ret ?_
                exact Fin.doneK (.cons _ _ _ _ (.tmp 2 _ rfl) .nil) (.cons 0 rfl (.cons 0 rfl (.cons 0 rfl (.nil _)))) (by cases h; exact ⟨rfl, rfl⟩)
              · refine TL'.pU (.off _ _ _ _ rfl rfl rfl a) (dl rfl rfl) ?_
                refine TL'.pU (.off _ _ _ _ rfl rfl rfl a) (dl rfl rfl) ?_
                refine TL'.pU (.off _ _ _ _ rfl rfl rfl a) (dl rfl rfl) ?_
                refine sp rfl (OpT.pickF rfl (dl rfl rfl) rfl a rfl ?_)
                refine asg rfl rfl rfl rfl rfl ?_
                refine TL'.nil (tN ?_)
                refine T.ret ?_
                exact Fin.doneK (.cons _ _ _ _ (.tmp 2 _ rfl) .nil) (.cons 0 rfl (.cons 0 rfl (.cons 0 rfl (.nil _)))) (by cases h; exact ⟨rfl, rfl⟩)
            · refine TL'.pU (.off _ _ _ _ rfl rfl rfl g) (dl rfl rfl) ?_
              refine TL'.pU (.off _ _ _ _ rfl rfl rfl g) (dl rfl rfl) ?_
              refine sp rfl (OpT.pickF rfl (dl rfl rfl) rfl g rfl ?_)
              refine mv rfl rfl rfl rfl rfl ?_
              refine TL'.pU (.off _ _ _ _ rfl rfl rfl rfl) (dl rfl rfl) ?_
              refine TL'.pU (.off _ _ _ _ rfl rfl rfl rfl) (dl rfl rfl) ?_
              refine TL'.pU (.off _ _ _ _ rfl rfl rfl rfl) (dl rfl rfl) ?_
              refine sp rfl (OpT.pickF rfl (dl rfl rfl) rfl rfl rfl ?_)
              refine asg rfl rfl rfl rfl rfl ?_
              refine TL'.nil (tN ?_)
              refine T.ret ?_
              exact Fin.doneK (.cons _ _ _ _ (.tmp 2 _ rfl) .nil) (.cons 0 rfl (.cons 0 rfl (.cons 0 rfl (.nil _)))) (by cases h; exact ⟨rfl, rfl⟩)
          · refine TL'.pU (.off _ _ _ _ rfl rfl rfl f) (dl rfl rfl) ?_
            refine TL'.pU (.off _ _ _ _ rfl rfl rfl f) (dl rfl rfl) ?_
            refine sp rfl (OpT.pickF rfl (dl rfl rfl) rfl f rfl ?_)
            refine mv rfl rfl rfl rfl rfl ?_
            refine TL'.pU (.off _ _ _ _ rfl rfl rfl rfl) (dl rfl rfl) ?_
            refine TL'.pU (.off _ _ _ _ rfl rfl rfl rfl) (dl rfl rfl) ?_
            refine sp rfl (OpT.pickF rfl (dl rfl rfl) rfl rfl rfl ?_)
            refine mv rfl rfl rfl rfl rfl ?_
            refine TL'.pU (.off _ _ _ _ rfl rfl rfl rfl) (dl rfl rfl) ?_
            refine TL'.pU (.off _ _ _ _ rfl rfl rfl rfl) (dl rfl rfl) ?_
            refine TL'.pU (.off _ _ _ _ rfl rfl rfl rfl) (dl rfl rfl) ?_
            refine sp rfl (OpT.pickF rfl (dl rfl rfl) rfl rfl rfl ?_)
            refine asg rfl rfl rfl rfl rfl ?_
            refine TL'.nil (tN ?_)
            refine T.ret ?_
            exact Fin.doneK (.cons _ _ _ _ (.tmp 2 _ rfl) .nil) (.cons 0 rfl (.cons 0 rfl (.cons 0 rfl (.nil _)))) (by cases h; exact ⟨rfl, rfl⟩)
theorem l5_PrintBack_T (K : Nat) {x0 : List aNd} {flx0 : Bool} {r : Bool} (h : l5_PrintBack K x0 = some r) : CallR Tryd.prog 5 [.sl flx0 9 (x0.map c_aNd)] [.tab 1 pow10V, .ro 2 deBruijnD, .ro 3 deBruijn32D] (.bool r) := by
 refine CallT.intro Tryd.func5 rfl (nb rfl) ?_
 show T Tryd.prog 75 (Code.at [] (codeOf Tryd.f5)) ⟨paramSlots 0 [.sl flx0 9 (x0.map c_aNd)], [.tab 1 pow10V, .ro 2 deBruijnD, .ro 3 deBruijn32D]⟩ (l5_PrintBack_q r)
 unfold l5_PrintBack at h
 refine T.seq (T.rL ?_)
 refine aw rfl ?_
 refine TL'.nil (tN (T.seq (T.rL ?_)))
 obtain ⟨j, m, h⟩ := bind_some h
 refine sp rfl (OpT.callRoA rfl (dk rfl) Tryd.func11 rfl rfl Args.nil (.tab 0 rfl (.cons 1 rfl (.cons 2 rfl (.nil)))) (l5_shown_T K m) ?_)
 refine aw rfl ?_
 refine TL'.nil (tN (T.seq (T.rL ?_)))
 refine mw rfl ?_
 refine mw rfl ?_
 refine sp rfl (OpT.lenSlM (xs := x0) (f := c_aNd) rfl (dk rfl) ul22 rfl ?_)
 refine sp rfl (OpT.min2 rfl (dk rfl) rfl rfl ?_)
 obtain ⟨d, h⟩ := ck_some h
 refine sp rfl (OpT.sliceM (xs := x0) (f := c_aNd) (l := 0) (h := (Int.toNat (if (300 : Int) < (x0.length : Int) then (300 : Int) else (x0.length : Int)))) rfl (dk rfl) ul22 i42 rfl (.none _) (.some _ _ _ _ rfl d.1) d.2.1 d.2.2 ?_)
 refine aw rfl ?_
 refine TL'.nil (tN (T.seq (T.rL ?_)))
 refine mw rfl ?_
 obtain ⟨i, p, h⟩ := bind_some h
 refine sp rfl (OpT.callRoA rfl (dk rfl) Tryd.func9 rfl rfl (Args.cons rfl Args.nil) (.tab 0 rfl (.cons 1 rfl (.cons 2 rfl (.nil)))) (pT_T K (flx0 := false) p) ?_)
 refine mw rfl ?_
 refine sp rfl (OpT.extract rfl (dk rfl) rfl rfl ?_)
 refine sp rfl (OpT.extract rfl (dk rfl) rfl rfl ?_)
 refine aw rfl ?_
 refine aw rfl ?_
 refine TL'.nil (tN ?_)
 refine T.seq ?_
 refine T.seq (T.rL ?_)
 refine mw rfl ?_
 refine sp rfl (OpT.not rfl (dk rfl) rfl ?_)
 refine TL'.nil (tN ?_)
 rcases bif_some h with ⟨g, h⟩ | ⟨g, h⟩
 refine T.condT rfl g ?_
 refine T.seq (T.rL ?_)
 refine mw rfl ?_
 refine mw rfl ?_
 rcases bif_some h with ⟨b, h⟩ | ⟨b, h⟩
 refine TL'.step (.on rfl rfl rfl b) (OpT.move rfl (dk rfl) rfl ?_)
 refine TL'.step (.on rfl rfl rfl b) (OpT.str_eql rfl (dk rfl) rfl rfl ?_)
 refine sp rfl (OpT.pickT rfl (dk rfl) rfl b rfl ?_)
 refine mw rfl ?_
 rcases bif_some h with ⟨a, h⟩ | ⟨a, h⟩
 refine TL'.step (.on rfl rfl rfl a) (OpT.move rfl (dk rfl) rfl ?_)
 obtain ⟨q, s, h⟩ := bind_some h
 refine TL'.step (.on rfl rfl rfl a) (OpT.callPA rfl (dk rfl) Tryd.func16 rfl rfl (Args.cons rfl Args.nil) (CallR.nil (sy_Right_T K (flx0 := false) s)) ?_)
 refine TL'.step (.on rfl rfl rfl a) (OpT.not rfl (dk rfl) rfl ?_)
 refine sp rfl (OpT.pickT rfl (dk rfl) rfl a rfl ?_)
 refine aw rfl ?_
 refine TL'.nil (tN ?_)
 refine T.by_turn ?_ (l5_PrintBack_j0_T K (!q) h)
 exact Turn.rp (.cons rfl (.nil _)) (.c .z (.c .z (.c .z (.n _))))
 refine TL'.pU (.off _ _ _ _ rfl rfl rfl a) (dk rfl) ?_
 refine TL'.pU (.off _ _ _ _ rfl rfl rfl a) (dk rfl) ?_
 refine TL'.pU (.off _ _ _ _ rfl rfl rfl a) (dk rfl) ?_
 refine sp rfl (OpT.pickF rfl (dk rfl) rfl a rfl ?_)
 refine aw rfl ?_
 refine TL'.nil (tN ?_)
 refine T.by_turn ?_ (l5_PrintBack_j0_T K false h)
 exact Turn.rp (.cons rfl (.nil _)) (.c .z (.c .z (.c .z (.n _))))
 refine TL'.pU (.off _ _ _ _ rfl rfl rfl b) (dk rfl) ?_
 refine TL'.pU (.off _ _ _ _ rfl rfl rfl b) (dk rfl) ?_
 refine sp rfl (OpT.pickF rfl (dk rfl) rfl b rfl ?_)
 refine mw rfl ?_
 refine TL'.pU (.off _ _ _ _ rfl rfl rfl rfl) (dk rfl) ?_
 refine TL'.pU (.off _ _ _ _ rfl rfl rfl rfl) (dk rfl) ?_
 refine TL'.pU (.off _ _ _ _ rfl rfl rfl rfl) (dk rfl) ?_
 refine sp rfl (OpT.pickF rfl (dk rfl) rfl rfl rfl ?_)
 refine aw rfl ?_
 refine TL'.nil (tN ?_)
 refine T.by_turn ?_ (l5_PrintBack_j0_T K false h)
 exact Turn.rp (.cons rfl (.nil _)) (.c .z (.c .z (.c .z (.n _))))
 refine T.condF rfl g ?_
 refine T.skip (tN ?_)
 refine T.seq (T.rL ?_)
 refine aw rfl ?_
 refine TL'.nil (tN ?_)
 refine T.seq ?_
 refine T.seq (T.rL ?_)
 refine mw rfl ?_
 refine sp rfl (OpT.lenStr rfl (dk rfl) ul9 rfl ?_)
 refine mw rfl ?_
 refine TL'.nil (tN ?_)
 refine T.block ?_
 refine T.loop ?_
 refine TL.by_turn ?_ (l5_PrintBack_l1_T K K j ((x0.take (Int.toNat (if (300 : Int) < (x0.length : Int) then (300 : Int) else (x0.length : Int)))).drop 0) i.1 (0 : Int) (i.1.size : Int) (0 : Int) h)
 exact Turn.rp (.cons rfl (.cons rfl (.cons rfl (.cons rfl (.cons rfl (.cons rfl (.nil _))))))) (.c .z (.c .z (.c .z (.n _))))
end Go.Rv

/- Each function computes what its plain text says: printed by a program of ours. -/
import Derived.Test.YtocjhbbldeankaaDoorRgW3
namespace Go.Rv
open Go.Proofs
set_option maxRecDepth 100000
set_option maxHeartbeats 4000000
set_option linter.unusedVariables false
abbrev pT_q (r : ByteArray × Bool) : Exit → St → Prop := retS Tryd.prog Tryd.f9 (fun y t => y = (.tup [.str r.1, .bool r.2]) ∧ t = [.tab 1 pow10V, .ro 2 deBruijnD, .ro 3 deBruijn32D])
abbrev pT_qs1111 (r : ByteArray × Bool) : Exit → St → Prop := thenS (fun s' => T Tryd.prog 105 (Code.at [1, 1, 1, 1] (codeOf Tryd.f9)) s' ((pT_q r))) ((pT_q r))
abbrev pT_qb0x1111 (r : ByteArray × Bool) : Exit → St → Prop := inBlockS 0 ((pT_qs1111 r))
abbrev pT_ql111010 (r : ByteArray × Bool) : Exit → St → Prop := thenS (fun s' => TL Tryd.prog 105 (Code.at [1, 1, 1, 0, 1, 0, 0] (codeOf Tryd.f9)) s' ((pT_qb0x1111 r))) ((pT_qb0x1111 r))
abbrev pT_qs1110100111 (r : ByteArray × Bool) : Exit → St → Prop := thenS (fun s' => T Tryd.prog 105 (Code.at [1, 1, 1, 0, 1, 0, 0, 1, 1, 1] (codeOf Tryd.f9)) s' ((pT_ql111010 r))) ((pT_ql111010 r))
abbrev pT_qb1_0x1110100111 (r : ByteArray × Bool) : Exit → St → Prop := inBlockS 1 ((pT_qs1110100111 r))
abbrev pT_qs11101001100111 (r : ByteArray × Bool) : Exit → St → Prop := thenS (fun s' => T Tryd.prog 105 (Code.at [1, 1, 1, 0, 1, 0, 0, 1, 1, 0, 0, 1, 1, 1] (codeOf Tryd.f9)) s' ((pT_qb1_0x1110100111 r))) ((pT_qb1_0x1110100111 r))
abbrev pT_qb2_1_0x11101001100111 (r : ByteArray × Bool) : Exit → St → Prop := inBlockS 2 ((pT_qs11101001100111 r))
abbrev pT_ql1110100110011010 (r : ByteArray × Bool) : Exit → St → Prop := thenS (fun s' => TL Tryd.prog 105 (Code.at [1, 1, 1, 0, 1, 0, 0, 1, 1, 0, 0, 1, 1, 0, 1, 0, 0] (codeOf Tryd.f9)) s' ((pT_qb2_1_0x11101001100111 r))) ((pT_qb2_1_0x11101001100111 r))
abbrev pT_qs11101001100110100111 (r : ByteArray × Bool) : Exit → St → Prop := thenS (fun s' => T Tryd.prog 105 (Code.at [1, 1, 1, 0, 1, 0, 0, 1, 1, 0, 0, 1, 1, 0, 1, 0, 0, 1, 1, 1] (codeOf Tryd.f9)) s' ((pT_ql1110100110011010 r))) ((pT_ql1110100110011010 r))
abbrev pT_qb3_2_1_0x11101001100110100111 (r : ByteArray × Bool) : Exit → St → Prop := inBlockS 3 ((pT_qs11101001100110100111 r))
abbrev pT_l1_H (r : ByteArray × Bool) (go : (List aNd) → Int → Int → Int → (List Int) → Int → Int → (List ByteArray) → Int → Arr4 → (List Int) → Int → Int → ByteArray → (List ByteArray) → Option (ByteArray × Bool)) : Prop := ∀ (x0 : List aNd) (b : Int) (f : Int) (g : Int) (i : List Int) (j : Int) (l : Int) (m : List ByteArray) (n : Int) (a : Arr4) (p : List Int) (q : Int) (s : Int) (u : ByteArray) (v : List ByteArray) (flx0 : Bool) (w : Value) (y : Nat) (z : Value), go x0 b f g i j l m n a p q s u v = some r → TL Tryd.prog 105 (Code.at [1, 1, 1, 0, 1, 0, 0, 1, 1, 0, 0, 1, 1, 0, 1, 0, 0] (codeOf Tryd.f9)) ⟨[(0, .sl flx0 9 (x0.map c_aNd)), (4, .c (.ex w)), (5, .int .i64 b), (6, .ptr y 0), (7, .c (.ex z)), (17, .sl flx0 9 (x0.map c_aNd)), (18, .int .i64 f), (19, .int .i64 g), (25, .sl false 1 (i.map (cI .i64))), (26, .int .i64 j), (27, .int .i64 l)], [.arrX w 9 1 0 (m.map cS), .box y 42 [.d (.int .u8 n), .d (.int .u64 a.a0), .d (.int .u64 a.a1), .d (.int .u64 a.a2), .d (.int .u64 a.a3), .d (.sl false 1 (p.map (cI .i64))), .d (.int .i64 q), .d (.int .i64 s), .d (.str u)], .arrX z 9 1 0 (v.map cS), .tab 1 pow10V, .ro 2 deBruijnD, .ro 3 deBruijn32D]⟩ (pT_qb2_1_0x11101001100111 r)
theorem pT_j2_T {r : ByteArray × Bool} (K : Nat) (go1 : (List aNd) → Int → Int → Int → (List Int) → Int → Int → (List ByteArray) → Int → Arr4 → (List Int) → Int → Int → ByteArray → (List ByteArray) → Option (ByteArray × Bool)) (hgo1 : pT_l1_H r go1) (x0 : List aNd) (j : Int) (b : ByteArray) (l : Int) (m : Int) (p : List Int) (q : Int) (u : Int) (v : List ByteArray) (w : Int) (a : Arr4) (y : List Int) (aa : Int) (ab : Int) (ac : ByteArray) (g : List ByteArray) (flx0 : Bool) (ad : Value) (af : Nat) (ag : Value) (h : pT_j2 K go1 x0 j b l m p q u v w a y aa ab ac g = some r) : T Tryd.prog 105 (Code.at [1, 1, 1, 0, 1, 0, 0, 1, 1, 0, 0, 1, 1, 0, 1, 0, 0, 1, 1, 0, 0, 1, 1, 1] (codeOf Tryd.f9)) ⟨[(0, .sl flx0 9 (x0.map c_aNd)), (4, .c (.ex ad)), (5, .int .i64 j), (6, .ptr af 0), (7, .c (.ex ag)), (10, .str b), (17, .sl flx0 9 (x0.map c_aNd)), (18, .int .i64 l), (19, .int .i64 m), (25, .sl false 1 (p.map (cI .i64))), (26, .int .i64 q), (27, .int .i64 u)], [.arrX ad 9 1 0 (v.map cS), .box af 42 [.d (.int .u8 w), .d (.int .u64 a.a0), .d (.int .u64 a.a1), .d (.int .u64 a.a2), .d (.int .u64 a.a3), .d (.sl false 1 (y.map (cI .i64))), .d (.int .i64 aa), .d (.int .i64 ab), .d (.str ac)], .arrX ag 9 1 0 (g.map cS), .tab 1 pow10V, .ro 2 deBruijnD, .ro 3 deBruijn32D]⟩ (pT_qb3_2_1_0x11101001100110100111 r) := by
 unfold pT_j2 at h
 refine T.rL ?_
 refine mw rfl ?_
 refine mw rfl ?_
 refine sp rfl (OpT.buildSliceX (elems := ([b] : List ByteArray).map cS) rfl (dk rfl) ul47 i9 (by decide) rfl (all1 rfl) rfl rfl rfl (lenAll rfl) (by decide) (fun al => ?_))
 refine TL'.turn (Turn.sealX 0 rfl) ?_
 refine TL'.turn (Turn.view 48 0 rfl rfl) ?_
 obtain ⟨ai, h⟩ := ck_some h
 refine sp rfl (OpT.appendXM (i := 3) (xs := g) (ys := [b]) (f := cS) rfl (dk rfl) ul47 i9 rfl rfl rfl rfl ai (fun aj => ?_))
 refine aw rfl ?_
 refine TL'.nil (inBlock_normal (tN ?_))
 refine T.rL ?_
 refine sp rfl (OpT.int2 rfl rfl (dk rfl) rfl rfl ?_)
 refine mw rfl ?_
 refine TL'.nil (tN ?_)
 refine TL.by_turn ?_ (hgo1 x0 j l m p q (wI (u + (1 : Int))) v w a y aa ab ac (g ++ [b]) flx0 ad af aj h)
 exact Turn.rp (.cons rfl (.cons rfl (.cons rfl (.cons rfl (.cons rfl (.cons rfl (.cons rfl (.cons rfl (.cons rfl (.cons rfl (.cons rfl (.nil _)))))))))))) (.c (.s .z) (.c (.s .z) (.c (.s .z) (.c (.s .z) (.c (.s .z) (.c (.s .z) (.n _)))))))
abbrev pT_l0_H (r : ByteArray × Bool) (go : (List aNd) → Int → Int → (List ByteArray) → Option (ByteArray × Bool)) : Prop := ∀ (x0 : List aNd) (a : Int) (b : Int) (d : List ByteArray) (flx0 : Bool) (f : Value), go x0 a b d = some r → TL Tryd.prog 105 (Code.at [1, 1, 1, 0, 1, 0, 0] (codeOf Tryd.f9)) ⟨[(0, .sl flx0 9 (x0.map c_aNd)), (4, .c (.ex f)), (17, .sl flx0 9 (x0.map c_aNd)), (18, .int .i64 a), (19, .int .i64 b)], [.arrX f 9 1 0 (d.map cS), .tab 1 pow10V, .ro 2 deBruijnD, .ro 3 deBruijn32D]⟩ (pT_qb0x1111 r)
theorem pT_l1_T {r : ByteArray × Bool} (K : Nat) (go0 : (List aNd) → Int → Int → (List ByteArray) → Option (ByteArray × Bool)) (hgo0 : pT_l0_H r go0) : ∀ (k : Nat), ∀ (x0 : List aNd) (p : Int) (q : Int) (w : Int) (aj : List Int) (am : Int) (an : Int) (g : List ByteArray) (ab : Int) (b : Arr4) (ag : List Int) (ac : Int) (ad : Int) (af : ByteArray) (y : List ByteArray) (flx0 : Bool) (j : Value) (m : Nat) (aa : Value), pT_l1 K go0 k x0 p q w aj am an g ab b ag ac ad af y = some r → TL Tryd.prog 105 (Code.at [1, 1, 1, 0, 1, 0, 0, 1, 1, 0, 0, 1, 1, 0, 1, 0, 0] (codeOf Tryd.f9)) ⟨[(0, .sl flx0 9 (x0.map c_aNd)), (4, .c (.ex j)), (5, .int .i64 p), (6, .ptr m 0), (7, .c (.ex aa)), (17, .sl flx0 9 (x0.map c_aNd)), (18, .int .i64 q), (19, .int .i64 w), (25, .sl false 1 (aj.map (cI .i64))), (26, .int .i64 am), (27, .int .i64 an)], [.arrX j 9 1 0 (g.map cS), .box m 42 [.d (.int .u8 ab), .d (.int .u64 b.a0), .d (.int .u64 b.a1), .d (.int .u64 b.a2), .d (.int .u64 b.a3), .d (.sl false 1 (ag.map (cI .i64))), .d (.int .i64 ac), .d (.int .i64 ad), .d (.str af)], .arrX aa 9 1 0 (y.map cS), .tab 1 pow10V, .ro 2 deBruijnD, .ro 3 deBruijn32D]⟩ (pT_qb2_1_0x11101001100111 r) := by
  intro k
  induction k with
  | zero =>
    intro x0 p q w aj am an g ab b ag ac ad af y flx0 j m aa h
    cases (show (none : Option (ByteArray × Bool)) = some r from h)
  | succ k ih =>
    intro x0 p q w aj am an g ab b ag ac ad af y flx0 j m aa h
    rw [pT_l1] at h
    refine TL.round ?_
    refine T.seq ?_
    refine T.rL ?_
    refine sp rfl (OpT.int2 rfl rfl (dl rfl rfl) rfl rfl ?_)
    refine TL'.nil (tN ?_)
    refine T.seq ?_
    rcases bif_some h with ⟨aq, h⟩ | ⟨aq, h⟩
    · refine T.condT rfl aq ?_
      refine T.skip (tN ?_)
      refine T.seq ?_
      refine T.block ?_
      refine T.seq ?_
      refine T.rL ?_
      obtain ⟨a5, bq, h⟩ := bind_some h
      refine sp rfl (OpT.indexSlM (xs := aj) (f := (cI .i64)) (v := a5) rfl (dl rfl rfl) Tryd.underlying40 i3 rfl rfl bq ?_)
      refine sp rfl (OpT.loadRef rfl (dl rfl rfl) Tryd.underlying3 rfl rfl rfl ?_)
      refine asg rfl rfl rfl rfl rfl ?_
      refine TL'.nil (tN ?_)
      refine T.seq ?_
      refine T.rL ?_
      refine mv rfl rfl rfl rfl rfl ?_
      refine mv rfl rfl rfl rfl rfl ?_
      obtain ⟨ap, a6, h⟩ := bind_some h
      refine sp rfl (OpT.indexXM (n := 0) (xs := g) (f := cS) (old := ap) rfl (dl rfl rfl) Tryd.underlying47 i9 rfl rfl rfl a6 ?_)
      refine sp rfl (OpT.loadXM (i := 0) (xs := g) (f := cS) (old := ap) rfl (dl rfl rfl) Tryd.underlying9 rfl rfl rfl (geti_some a6).2 rfl ?_)
      refine asg rfl rfl rfl rfl rfl ?_
      refine TL'.nil (tN ?_)
      refine T.seq ?_
      refine T.seq ?_
      refine DG.start ?_
      refine DG.step (c := ⟨some 35, .ptr m (0 + 0), [(6, .ptr m 0)], [], []⟩) (fun t hm => One.step rfl (.free rfl) (OpT.fieldPtr rfl (dl rfl rfl) Tryd.underlying42 rfl i5 (by decide) hm.s0 rfl)) (Ct.mo rfl rfl) ?_
      refine DG.step (c := ⟨some 36, .int .u8 ab, [(35, .ptr m (0 + 0))], [(1, .box m 42 [.d (.int .u8 ab), .d (.int .u64 b.a0), .d (.int .u64 b.a1), .d (.int .u64 b.a2), .d (.int .u64 b.a3), .d (.sl false 1 (ag.map (cI .i64))), .d (.int .i64 ac), .d (.int .i64 ad), .d (.str af)])], []⟩) (fun t hm => One.step rfl (.free rfl) (OpT.lB (i := 1) rfl (dl rfl rfl) Tryd.underlying5 rfl hm.s0 hm.o0 rfl rfl)) (Ct.mo rfl rfl) ?_
      refine DG.mv rfl rfl rfl rfl rfl rfl ?_
      refine DG.mv rfl rfl rfl rfl rfl rfl ?_
      obtain ⟨a, bs, h⟩ := bind_some h
      refine DG.step (c := ⟨some 39, .ref [.int .u8 a.Op, .int .u64 a.S.a0, .int .u64 a.S.a1, .int .u64 a.S.a2, .int .u64 a.S.a3, .sl false 1 (a.L.map (cI .i64)), .int .i64 a.Lo, .int .i64 a.Hi, .str a.Name], [(37, .sl flx0 9 (x0.map c_aNd)), (38, .int .i64 a5)], [], []⟩) (fun t hm => One.step rfl (.free rfl) (OpT.indexSlM (xs := x0) (f := c_aNd) (v := a) rfl (dl rfl rfl) Tryd.underlying22 i42 hm.s0 hm.s1 bs rfl)) (Ct.mo rfl rfl) ?_
      refine DG.step (c := ⟨some 40, .ref [.int .u8 a.Op, .int .u64 a.S.a0, .int .u64 a.S.a1, .int .u64 a.S.a2, .int .u64 a.S.a3, .sl false 1 (a.L.map (cI .i64)), .int .i64 a.Lo, .int .i64 a.Hi, .str a.Name], [(39, .ref [.int .u8 a.Op, .int .u64 a.S.a0, .int .u64 a.S.a1, .int .u64 a.S.a2, .int .u64 a.S.a3, .sl false 1 (a.L.map (cI .i64)), .int .i64 a.Lo, .int .i64 a.Hi, .str a.Name])], [], []⟩) (fun t hm => One.step rfl (.free rfl) (OpT.fieldRef rfl (dl rfl rfl) Tryd.underlying42 rfl i5 (by decide) hm.s0 rfl)) (Ct.mo rfl rfl) ?_
      refine DG.step (c := ⟨some 41, .int .u8 a.Op, [(40, .ref [.int .u8 a.Op, .int .u64 a.S.a0, .int .u64 a.S.a1, .int .u64 a.S.a2, .int .u64 a.S.a3, .sl false 1 (a.L.map (cI .i64)), .int .i64 a.Lo, .int .i64 a.Hi, .str a.Name])], [], []⟩) (fun t hm => One.step rfl (.free rfl) (OpT.loadRef rfl (dl rfl rfl) Tryd.underlying5 rfl hm.s0 rfl rfl)) (Ct.mo rfl rfl) ?_
      obtain ⟨a7, bu, h⟩ := bind_some h
      refine DG.step (c := ⟨some 42, .bool a7, [(36, .int .u8 ab), (41, .int .u8 a.Op)], [], []⟩) (fun t hm => One.step rfl (.free rfl) (OpT.callPA rfl (dl rfl rfl) Tryd.func20 rfl rfl (Args.cons hm.s0 (Args.cons hm.s1 Args.nil)) (CallR.nil (pW_T K bu)) rfl)) (Ct.mo rfl rfl) ?_
      refine DG.fin (s1 := ⟨[(0, .sl flx0 9 (x0.map c_aNd)), (4, .c (.ex j)), (5, .int .i64 p), (6, .ptr m 0), (7, .c (.ex aa)), (10, .str ap), (17, .sl flx0 9 (x0.map c_aNd)), (18, .int .i64 q), (19, .int .i64 w), (25, .sl false 1 (aj.map (cI .i64))), (26, .int .i64 am), (27, .int .i64 an), (42, .bool a7)], [.arrX j 9 1 0 (g.map cS), .box m 42 [.d (.int .u8 ab), .d (.int .u64 b.a0), .d (.int .u64 b.a1), .d (.int .u64 b.a2), .d (.int .u64 b.a3), .d (.sl false 1 (ag.map (cI .i64))), .d (.int .i64 ac), .d (.int .i64 ad), .d (.str af)], .arrX aa 9 1 0 (y.map cS), .tab 1 pow10V, .ro 2 deBruijnD, .ro 3 deBruijn32D]⟩) (ms := [0, 1, 0, 0, 12, 28, 60, 127]) TrydMixed rfl (by kernel_rfl) (by kernel_rfl) (by kernel_rfl) (.cons rfl (.cons rfl (.cons rfl (.cons rfl (.cons rfl (.cons rfl (.cons rfl (.cons rfl (.cons rfl (.cons rfl (.cons rfl (.cons rfl (.cons rfl (.nil _)))))))))))))) rfl (fun u hu => (tN (T.by_turn hu ?_)))
      rcases bif_some h with ⟨au, h⟩ | ⟨au, h⟩
      · refine T.condT rfl au ?_
        refine T.rL ?_
        refine mv rfl rfl rfl rfl rfl ?_
        obtain ⟨bv, h⟩ := ck_some h
        refine sp rfl (OpT.str_add rfl (dl rfl rfl) rfl rfl bv ?_)
        obtain ⟨bw, h⟩ := ck_some h
        refine sp rfl (OpT.str_add rfl (dl rfl rfl) rfl rfl bw ?_)
        refine asg rfl rfl rfl rfl rfl ?_
        refine TL'.nil (tN ?_)
        refine T.by_turn ?_ (pT_j2_T K (pT_l1 K go0 k) ih x0 p (((⟨#[40]⟩ : ByteArray) ++ ap) ++ (⟨#[41]⟩ : ByteArray)) q w aj am an g ab b ag ac ad af y flx0 j m aa h)
        exact Turn.rp (.cons rfl (.cons rfl (.cons rfl (.cons rfl (.cons rfl (.cons rfl (.cons rfl (.cons rfl (.cons rfl (.cons rfl (.cons rfl (.cons rfl (.nil _))))))))))))) (.c .z (.c .z (.c .z (.c .z (.c .z (.c .z (.n _)))))))
      · refine T.condF rfl au ?_
        refine T.skip (tN ?_)
        refine T.by_turn ?_ (pT_j2_T K (pT_l1 K go0 k) ih x0 p ap q w aj am an g ab b ag ac ad af y flx0 j m aa h)
        exact Turn.rp (.cons rfl (.cons rfl (.cons rfl (.cons rfl (.cons rfl (.cons rfl (.cons rfl (.cons rfl (.cons rfl (.cons rfl (.cons rfl (.cons rfl (.nil _))))))))))))) (.c .z (.c .z (.c .z (.c .z (.c .z (.c .z (.n _)))))))
    · refine T.condF rfl aq ?_
      refine T.exit (thenS_exit (thenS_exit (inBlock_exit (tN ?_))))
      refine T.seq ?_
      refine T.rL ?_
      refine sp rfl (OpT.fieldPtr rfl (dl rfl rfl) Tryd.underlying42 rfl i5 (by decide) rfl ?_)
      refine sp rfl (OpT.lB (i := 1) rfl (dl rfl rfl) Tryd.underlying5 rfl rfl rfl rfl ?_)
      refine TL'.nil (tN ?_)
      refine T.block ?_
      refine T.seq ?_
      refine T.rL ?_
      refine sp rfl (OpT.int2 rfl rfl (dl rfl rfl) rfl rfl ?_)
      refine asg rfl rfl rfl rfl rfl ?_
      refine TL'.nil (tN ?_)
      rcases bif_some h with ⟨av, h⟩ | ⟨av, h⟩
      · refine T.condT rfl av ?_
        refine T.rL ?_
        refine mv rfl rfl rfl rfl rfl ?_
        refine mv rfl rfl rfl rfl rfl ?_
        refine sp rfl (OpT.fieldPtr rfl (dl rfl rfl) Tryd.underlying42 rfl i25 (by decide) rfl ?_)
        refine sp rfl (OpT.lBAgg (i := 1) (l := (Arr4.dc .u64 b)) rfl (dl rfl rfl) Tryd.underlying25 rfl i25 rfl rfl rfl rfl ?_)
        obtain ⟨a8, bz, h⟩ := bind_some h
        refine sp rfl (OpT.callRoA rfl (dl rfl rfl) Tryd.func14 rfl rfl (Args.cons rfl Args.nil) (.cons 4 rfl (.cons 5 rfl (.nil))) (print_Set_T K bz) ?_)
        obtain ⟨a9, ba, h⟩ := bind_some h
        refine sp rfl (OpT.indexXM (n := 0) (xs := g) (f := cS) (old := a9) rfl (dl rfl rfl) Tryd.underlying47 i9 rfl rfl rfl ba ?_)
        refine sp rfl (OpT.storeXM (i := 0) (xs := g) (f := cS) (old := a9) (new := a8) rfl rfl i9 rfl rfl rfl (geti_some ba).2 (Nat.zero_le _) (Nat.le_of_ble_eq_true rfl) rfl ?_)
        refine TL'.nil (inBlock_normal (inBlock_normal (tN ?_)))
        refine T.rL ?_
        refine sp rfl (OpT.int2 rfl rfl (dl rfl rfl) rfl rfl ?_)
        refine mv rfl rfl rfl rfl rfl ?_
        refine TL'.nil (tN ?_)
        refine TL.by_turn ?_ (hgo0 x0 q (wI (w + (1 : Int))) (List.set g (Int.toNat p) a8) flx0 j h)
        exact Turn.rp (.cons rfl (.cons rfl (.cons rfl (.cons rfl (.cons rfl (.nil _)))))) (.c .z (.c (.s (.s .z)) (.c (.s (.s .z)) (.c (.s (.s .z)) (.n _)))))
      · refine T.condF rfl av ?_
        refine T.seq ?_
        refine T.rL ?_
        refine sp rfl (OpT.int2 rfl rfl (dl rfl rfl) rfl rfl ?_)
        refine asg rfl rfl rfl rfl rfl ?_
        refine TL'.nil (tN ?_)
        rcases bif_some h with ⟨aw, h⟩ | ⟨aw, h⟩
        · refine T.condT rfl aw ?_
          refine T.rL ?_
          refine mv rfl rfl rfl rfl rfl ?_
          refine mv rfl rfl rfl rfl rfl ?_
          refine sp rfl (OpT.fieldPtr rfl (dl rfl rfl) Tryd.underlying42 rfl i9 (by decide) rfl ?_)
          refine sp rfl (OpT.lB (i := 1) rfl (dl rfl rfl) Tryd.underlying9 rfl rfl rfl rfl ?_)
          obtain ⟨b0, h⟩ := ck_some h
          refine sp rfl (OpT.str_add rfl (dl rfl rfl) rfl rfl b0 ?_)
          obtain ⟨b1, h⟩ := ck_some h
          refine sp rfl (OpT.str_add rfl (dl rfl rfl) rfl rfl b1 ?_)
          obtain ⟨bb, bc, h⟩ := bind_some h
          refine sp rfl (OpT.indexXM (n := 0) (xs := g) (f := cS) (old := bb) rfl (dl rfl rfl) Tryd.underlying47 i9 rfl rfl rfl bc ?_)
          refine sp rfl (OpT.storeXM (i := 0) (xs := g) (f := cS) (old := bb) (new := (((⟨#[123]⟩ : ByteArray) ++ af) ++ (⟨#[125]⟩ : ByteArray))) rfl rfl i9 rfl rfl rfl (geti_some bc).2 (Nat.zero_le _) (Nat.le_of_ble_eq_true rfl) rfl ?_)
          refine TL'.nil (inBlock_normal (inBlock_normal (tN ?_)))
          refine T.rL ?_
          refine sp rfl (OpT.int2 rfl rfl (dl rfl rfl) rfl rfl ?_)
          refine mv rfl rfl rfl rfl rfl ?_
          refine TL'.nil (tN ?_)
          refine TL.by_turn ?_ (hgo0 x0 q (wI (w + (1 : Int))) (List.set g (Int.toNat p) (((⟨#[123]⟩ : ByteArray) ++ af) ++ (⟨#[125]⟩ : ByteArray))) flx0 j h)
          exact Turn.rp (.cons rfl (.cons rfl (.cons rfl (.cons rfl (.cons rfl (.nil _)))))) (.c .z (.c (.s (.s .z)) (.c (.s (.s .z)) (.c (.s (.s .z)) (.n _)))))
        · refine T.condF rfl aw ?_
          refine T.seq ?_
          refine T.rL ?_
          refine sp rfl (OpT.int2 rfl rfl (dl rfl rfl) rfl rfl ?_)
          refine asg rfl rfl rfl rfl rfl ?_
          refine TL'.nil (tN ?_)
          rcases bif_some h with ⟨ay, h⟩ | ⟨ay, h⟩
          · refine T.condT rfl ay ?_
            refine DG.start ?_
            refine DG.mv rfl rfl rfl rfl rfl rfl ?_
            refine DG.mv rfl rfl rfl rfl rfl rfl ?_
            refine DG.mv rfl rfl rfl rfl rfl rfl ?_
            obtain ⟨ai, bd, h⟩ := bind_some h
            refine DG.step (c := ⟨some 75, .el aa 1 (Int.toNat (0 : Int)) 0, [(74, .c (.ex aa))], [(2, .arrX aa 9 1 0 (y.map cS))], []⟩) (fun t hm => One.step rfl (.free rfl) (OpT.indexXM (n := 2) (xs := y) (f := cS) (old := ai) rfl (dl rfl rfl) Tryd.underlying47 i9 hm.s0 hm.o0 rfl bd rfl)) (Ct.mo rfl rfl) ?_
            refine DG.step (c := ⟨some 76, .str ai, [(75, .el aa 1 (Int.toNat (0 : Int)) 0)], [(2, .arrX aa 9 1 0 (y.map cS))], []⟩) (fun t hm => One.step rfl (.free rfl) (OpT.loadXM (i := 2) (xs := y) (f := cS) (old := ai) rfl (dl rfl rfl) Tryd.underlying9 rfl hm.s0 hm.o0 (geti_some bd).2 rfl rfl)) (Ct.mo rfl rfl) ?_
            refine DG.step (c := ⟨some 77, .ptr m (0 + 6), [(6, .ptr m 0)], [], []⟩) (fun t hm => One.step rfl (.free rfl) (OpT.fieldPtr rfl (dl rfl rfl) Tryd.underlying42 rfl i3 (by decide) hm.s0 rfl)) (Ct.mo rfl rfl) ?_
            refine DG.step (c := ⟨some 78, .int .i64 ac, [(77, .ptr m (0 + 6))], [(1, .box m 42 [.d (.int .u8 ab), .d (.int .u64 b.a0), .d (.int .u64 b.a1), .d (.int .u64 b.a2), .d (.int .u64 b.a3), .d (.sl false 1 (ag.map (cI .i64))), .d (.int .i64 ac), .d (.int .i64 ad), .d (.str af)])], []⟩) (fun t hm => One.step rfl (.free rfl) (OpT.lB (i := 1) rfl (dl rfl rfl) Tryd.underlying3 rfl hm.s0 hm.o0 rfl rfl)) (Ct.mo rfl rfl) ?_
            refine DG.step (c := ⟨some 79, .ptr m (0 + 7), [(6, .ptr m 0)], [], []⟩) (fun t hm => One.step rfl (.free rfl) (OpT.fieldPtr rfl (dl rfl rfl) Tryd.underlying42 rfl i3 (by decide) hm.s0 rfl)) (Ct.mo rfl rfl) ?_
            refine DG.step (c := ⟨some 80, .int .i64 ad, [(79, .ptr m (0 + 7))], [(1, .box m 42 [.d (.int .u8 ab), .d (.int .u64 b.a0), .d (.int .u64 b.a1), .d (.int .u64 b.a2), .d (.int .u64 b.a3), .d (.sl false 1 (ag.map (cI .i64))), .d (.int .i64 ac), .d (.int .i64 ad), .d (.str af)])], []⟩) (fun t hm => One.step rfl (.free rfl) (OpT.lB (i := 1) rfl (dl rfl rfl) Tryd.underlying3 rfl hm.s0 hm.o0 rfl rfl)) (Ct.mo rfl rfl) ?_
            obtain ⟨al, b2, h⟩ := bind_some h
            refine DG.step (c := ⟨some 81, .str al, [(78, .int .i64 ac), (80, .int .i64 ad)], [(3, .tab 1 pow10V)], []⟩) (fun t hm => One.step rfl (.free rfl) (OpT.callRoA rfl (dl rfl rfl) Tryd.func21 rfl rfl (Args.cons hm.s0 (Args.cons hm.s1 Args.nil)) (.tab 3 hm.o0 (.nil)) (print_times_T K b2) rfl)) (Ct.mo rfl rfl) ?_
            obtain ⟨b3, h⟩ := ck_some h
            refine DG.step (c := ⟨some 82, .str (ai ++ al), [(76, .str ai), (81, .str al)], [], []⟩) (fun t hm => One.step rfl (.free rfl) (OpT.str_add rfl (dl rfl rfl) hm.s0 hm.s1 b3 rfl)) (Ct.mo rfl rfl) ?_
            obtain ⟨bf, bg, h⟩ := bind_some h
            refine DG.step (c := ⟨some 83, .el j 1 (Int.toNat p) 0, [(72, .c (.ex j)), (73, .int .i64 p)], [(0, .arrX j 9 1 0 (g.map cS))], []⟩) (fun t hm => One.step rfl (.free rfl) (OpT.indexXM (n := 0) (xs := g) (f := cS) (old := bf) rfl (dl rfl rfl) Tryd.underlying47 i9 hm.s0 hm.o0 hm.s1 bg rfl)) (Ct.mo rfl rfl) ?_
            refine DG.step (c := ⟨none, .any, [(83, .el j 1 (Int.toNat p) 0), (82, .str (ai ++ al))], [(0, .arrX j 9 1 0 (g.map cS))], [(0, .arrX j 9 1 0 ((List.set g (Int.toNat p) (ai ++ al)).map cS))]⟩) (fun t hm => One.step rfl (.free rfl) (OpT.storeXM (i := 0) (xs := g) (f := cS) (old := bf) (new := (ai ++ al)) rfl rfl i9 hm.s0 hm.s1 hm.o0 (geti_some bg).2 (Nat.zero_le _) (Nat.le_of_ble_eq_true rfl) rfl rfl)) (Ct.mo rfl rfl) ?_
            refine DG.fin (s1 := ⟨[(0, .sl flx0 9 (x0.map c_aNd)), (4, .c (.ex j)), (17, .sl flx0 9 (x0.map c_aNd)), (18, .int .i64 q), (19, .int .i64 w)], [.arrX j 9 1 0 ((List.set g (Int.toNat p) (ai ++ al)).map cS), .box m 42 [.d (.int .u8 ab), .d (.int .u64 b.a0), .d (.int .u64 b.a1), .d (.int .u64 b.a2), .d (.int .u64 b.a3), .d (.sl false 1 (ag.map (cI .i64))), .d (.int .i64 ac), .d (.int .i64 ad), .d (.str af)], .arrX aa 9 1 0 (y.map cS), .tab 1 pow10V, .ro 2 deBruijnD, .ro 3 deBruijn32D]⟩) (ms := [0, 0, 0, 4, 12, 0, 32, 0, 128, 480, 1020, 2047, 4095]) TrydMixed rfl (by kernel_rfl) (by kernel_rfl) (by kernel_rfl) (.cons rfl (.cons rfl (.cons rfl (.cons rfl (.cons rfl (.nil _)))))) rfl (fun u hu => (inBlock_normal (inBlock_normal (tN (T.by_turn hu ?_)))))
            refine T.rL ?_
            refine sp rfl (OpT.int2 rfl rfl (dl rfl rfl) rfl rfl ?_)
            refine mv rfl rfl rfl rfl rfl ?_
            refine TL'.nil (tN ?_)
            refine TL.by_turn ?_ (hgo0 x0 q (wI (w + (1 : Int))) (List.set g (Int.toNat p) (ai ++ al)) flx0 j h)
            exact Turn.rp (.cons rfl (.cons rfl (.cons rfl (.cons rfl (.cons rfl (.nil _)))))) (.c .z (.c (.s (.s .z)) (.c (.s (.s .z)) (.c (.s (.s .z)) (.n _)))))
          · refine T.condF rfl ay ?_
            refine T.seq ?_
            refine T.rL ?_
            refine sp rfl (OpT.int2 rfl rfl (dl rfl rfl) rfl rfl ?_)
            refine asg rfl rfl rfl rfl rfl ?_
            refine TL'.nil (tN ?_)
            rcases bif_some h with ⟨az, h⟩ | ⟨az, h⟩
            · refine T.condT rfl az ?_
              refine T.rL ?_
              refine mv rfl rfl rfl rfl rfl ?_
              refine mv rfl rfl rfl rfl rfl ?_
              refine mv rfl rfl rfl rfl rfl ?_
              obtain ⟨bi, b4, h⟩ := bind_some h
              refine sp rfl (OpT.callLent (i := 2) rfl (dl rfl rfl) Tryd.func22 rfl rfl rfl (ArgsB.lentXM (xs := y) (f := cS) rfl (ArgsB.cons rfl ArgsB.nil)) (CallR.nil (strings_Join_T K (flx0 := false) b4)) (.ex _) ?_)
              obtain ⟨bj, bl, h⟩ := bind_some h
              refine sp rfl (OpT.indexXM (n := 0) (xs := g) (f := cS) (old := bj) rfl (dl rfl rfl) Tryd.underlying47 i9 rfl rfl rfl bl ?_)
              refine sp rfl (OpT.storeXM (i := 0) (xs := g) (f := cS) (old := bj) (new := bi) rfl rfl i9 rfl rfl rfl (geti_some bl).2 (Nat.zero_le _) (Nat.le_of_ble_eq_true rfl) rfl ?_)
              refine TL'.nil (inBlock_normal (inBlock_normal (tN ?_)))
              refine T.rL ?_
              refine sp rfl (OpT.int2 rfl rfl (dl rfl rfl) rfl rfl ?_)
              refine mv rfl rfl rfl rfl rfl ?_
              refine TL'.nil (tN ?_)
              refine TL.by_turn ?_ (hgo0 x0 q (wI (w + (1 : Int))) (List.set g (Int.toNat p) bi) flx0 j h)
              exact Turn.rp (.cons rfl (.cons rfl (.cons rfl (.cons rfl (.cons rfl (.nil _)))))) (.c .z (.c (.s (.s .z)) (.c (.s (.s .z)) (.c (.s (.s .z)) (.n _)))))
            · refine T.condF rfl az ?_
              refine T.seq ?_
              refine T.rL ?_
              refine sp rfl (OpT.int2 rfl rfl (dl rfl rfl) rfl rfl ?_)
              refine asg rfl rfl rfl rfl rfl ?_
              refine TL'.nil (tN ?_)
              rcases bif_some h with ⟨a4, h⟩ | ⟨a4, h⟩
              · refine T.condT rfl a4 ?_
                refine T.rL ?_
                refine mv rfl rfl rfl rfl rfl ?_
                refine mv rfl rfl rfl rfl rfl ?_
                refine mv rfl rfl rfl rfl rfl ?_
                obtain ⟨bm, b5, h⟩ := bind_some h
                refine sp rfl (OpT.callLent (i := 2) rfl (dl rfl rfl) Tryd.func22 rfl rfl rfl (ArgsB.lentXM (xs := y) (f := cS) rfl (ArgsB.cons rfl ArgsB.nil)) (CallR.nil (strings_Join_T K (flx0 := false) b5)) (.ex _) ?_)
                obtain ⟨bn, bp, h⟩ := bind_some h
                refine sp rfl (OpT.indexXM (n := 0) (xs := g) (f := cS) (old := bn) rfl (dl rfl rfl) Tryd.underlying47 i9 rfl rfl rfl bp ?_)
                refine sp rfl (OpT.storeXM (i := 0) (xs := g) (f := cS) (old := bn) (new := bm) rfl rfl i9 rfl rfl rfl (geti_some bp).2 (Nat.zero_le _) (Nat.le_of_ble_eq_true rfl) rfl ?_)
                refine TL'.nil (inBlock_normal (inBlock_normal (tN ?_)))
                refine T.rL ?_
                refine sp rfl (OpT.int2 rfl rfl (dl rfl rfl) rfl rfl ?_)
                refine mv rfl rfl rfl rfl rfl ?_
                refine TL'.nil (tN ?_)
                refine TL.by_turn ?_ (hgo0 x0 q (wI (w + (1 : Int))) (List.set g (Int.toNat p) bm) flx0 j h)
                exact Turn.rp (.cons rfl (.cons rfl (.cons rfl (.cons rfl (.cons rfl (.nil _)))))) (.c .z (.c (.s (.s .z)) (.c (.s (.s .z)) (.c (.s (.s .z)) (.n _)))))
              · refine T.condF rfl a4 ?_
                refine T.skip (inBlock_normal (inBlock_normal (tN ?_)))
                refine T.rL ?_
                refine sp rfl (OpT.int2 rfl rfl (dl rfl rfl) rfl rfl ?_)
                refine mv rfl rfl rfl rfl rfl ?_
                refine TL'.nil (tN ?_)
                refine TL.by_turn ?_ (hgo0 x0 q (wI (w + (1 : Int))) g flx0 j h)
                exact Turn.rp (.cons rfl (.cons rfl (.cons rfl (.cons rfl (.cons rfl (.nil _)))))) (.c .z (.c (.s (.s .z)) (.c (.s (.s .z)) (.c (.s (.s .z)) (.n _)))))
theorem pT_l0_T {r : ByteArray × Bool} (K : Nat) : ∀ (k : Nat), ∀ (x0 : List aNd) (j : Int) (g : Int) (b : List ByteArray) (flx0 : Bool) (l : Value), pT_l0 K k x0 j g b = some r → TL Tryd.prog 105 (Code.at [1, 1, 1, 0, 1, 0, 0] (codeOf Tryd.f9)) ⟨[(0, .sl flx0 9 (x0.map c_aNd)), (4, .c (.ex l)), (17, .sl flx0 9 (x0.map c_aNd)), (18, .int .i64 j), (19, .int .i64 g)], [.arrX l 9 1 0 (b.map cS), .tab 1 pow10V, .ro 2 deBruijnD, .ro 3 deBruijn32D]⟩ (pT_qb0x1111 r) := by
  intro k
  induction k with
  | zero =>
    intro x0 j g b flx0 l h
    cases (show (none : Option (ByteArray × Bool)) = some r from h)
  | succ k ih =>
    intro x0 j g b flx0 l h
    rw [pT_l0] at h
    refine TL.round ?_
    refine T.seq ?_
    refine T.rL ?_
    refine sp rfl (OpT.int2 rfl rfl (dl rfl rfl) rfl rfl ?_)
    refine TL'.nil (tN ?_)
    refine T.seq ?_
    rcases bif_some h with ⟨m, h⟩ | ⟨m, h⟩
    · refine T.condT rfl m ?_
      refine T.skip (tN ?_)
      refine T.seq ?_
      refine T.block ?_
      refine T.seq ?_
      refine T.rL ?_
      refine mv rfl rfl rfl rfl rfl ?_
      obtain ⟨a, u, h⟩ := bind_some h
      refine sp rfl (OpT.indexSlM (xs := x0) (f := c_aNd) (v := a) rfl (dl rfl rfl) Tryd.underlying22 i42 rfl rfl u ?_)
      refine sp rfl (OpT.loadRefAgg rfl (dl rfl rfl) Tryd.underlying42 rfl i42 rfl (Nat.le_of_ble_eq_true rfl) ?_)
      refine sp rfl (OpT.alloc' rfl (dl rfl rfl) i42 rfl (fun w => ?_))
      refine asg rfl rfl rfl rfl rfl ?_
      refine sp rfl (OpT.storeAggTo (i := 0) (cells' := [.d (.int .u8 a.Op), .d (.int .u64 a.S.a0), .d (.int .u64 a.S.a1), .d (.int .u64 a.S.a2), .d (.int .u64 a.S.a3), .d (.sl false 1 (a.L.map (cI .i64))), .d (.int .i64 a.Lo), .d (.int .i64 a.Hi), .d (.str a.Name)]) rfl rfl i42 rfl rfl rfl rfl (Nat.le_of_ble_eq_true rfl) rfl ?_)
      refine TL'.nil (tN ?_)
      refine T.seq ?_
      refine T.rL ?_
      refine asg rfl rfl rfl rfl rfl ?_
      refine TL'.nil (tN ?_)
      refine T.seq ?_
      refine T.seq ?_
      refine T.rL ?_
      refine sp rfl (OpT.fieldPtr rfl (dl rfl rfl) Tryd.underlying42 rfl i40 (by decide) rfl ?_)
      refine sp rfl (OpT.lB (i := 0) rfl (dl rfl rfl) Tryd.underlying40 rfl rfl rfl rfl ?_)
      refine sp rfl (OpT.lenSlM (xs := a.L) (f := (cI .i64)) rfl (dl rfl rfl) Tryd.underlying40 rfl ?_)
      refine mv rfl rfl rfl rfl rfl ?_
      refine TL'.nil (tN ?_)
      refine T.block ?_
      refine T.loop ?_
      refine TL.by_turn (Turn.nilX 9 1) ?_
      refine TL.by_turn ?_ (pT_l1_T K (pT_l0 K k) ih K x0 g j g a.L (a.L.length : Int) (0 : Int) b a.Op a.S a.L a.Lo a.Hi a.Name [] flx0 l w (nilv 2) h)
      exact Turn.rp (.cons rfl (.cons rfl (.cons rfl (.cons rfl (.cons rfl (.cons rfl (.cons rfl (.cons rfl (.cons rfl (.cons rfl (.cons rfl (.nil _)))))))))))) (.c (.s (.s .z)) (.c (.s .z) (.c .z (.c .z (.c .z (.c .z (.n _)))))))
    · refine T.condF rfl m ?_
      refine T.exit (thenS_exit (thenS_exit (inBlock_exit (tN ?_))))
      refine T.seq ?_
      refine T.rL ?_
      refine mv rfl rfl rfl rfl rfl ?_
      refine mv rfl rfl rfl rfl rfl ?_
      refine sp rfl (OpT.lenSlM (xs := x0) (f := c_aNd) rfl (dl rfl rfl) Tryd.underlying22 rfl ?_)
      refine sp rfl (OpT.int2 rfl rfl (dl rfl rfl) rfl rfl ?_)
      obtain ⟨p, q, h⟩ := bind_some h
      refine sp rfl (OpT.indexXM (n := 0) (xs := b) (f := cS) (old := p) rfl (dl rfl rfl) Tryd.underlying47 i9 rfl rfl rfl q ?_)
      refine sp rfl (OpT.loadXM (i := 0) (xs := b) (f := cS) (old := p) rfl (dl rfl rfl) Tryd.underlying9 rfl rfl rfl (geti_some q).2 rfl ?_)
      refine asg rfl rfl rfl rfl rfl ?_
      refine asg rfl rfl rfl rfl rfl ?_
      refine TL'.nil (tN ?_)
      refine T.ret ?_
      exact Fin.doneK (.cons _ _ _ _ (.tmp 2 _ rfl) (.cons _ _ _ _ (.tmp 3 _ rfl) .nil)) (.cons 1 rfl (.cons 1 rfl (.cons 1 rfl (.nil _)))) (by cases h; exact ⟨rfl, rfl⟩)
theorem pT_T (K : Nat) {x0 : List aNd} {flx0 : Bool} {r : ByteArray × Bool} (h : pT K x0 = some r) : CallR Tryd.prog 9 [.sl flx0 9 (x0.map c_aNd)] [.tab 1 pow10V, .ro 2 deBruijnD, .ro 3 deBruijn32D] (.tup [.str r.1, .bool r.2]) := by
 refine CallT.intro Tryd.func9 rfl (nb rfl) ?_
 show T Tryd.prog 105 (Code.at [] (codeOf Tryd.f9)) ⟨paramSlots 0 [.sl flx0 9 (x0.map c_aNd)], [.tab 1 pow10V, .ro 2 deBruijnD, .ro 3 deBruijn32D]⟩ (pT_q r)
 unfold pT at h
 refine T.seq (T.rL ?_)
 refine aw rfl ?_
 refine aw rfl ?_
 refine TL'.nil (tN ?_)
 refine T.seq ?_
 refine T.seq (T.rL ?_)
 refine mw rfl ?_
 obtain ⟨j, b, h⟩ := bind_some h
 refine sp rfl (OpT.callPA rfl (dk rfl) Tryd.func16 rfl rfl (Args.cons rfl Args.nil) (CallR.nil (sy_Right_T K (flx0 := flx0) b)) ?_)
 refine sp rfl (OpT.not rfl (dk rfl) rfl ?_)
 refine TL'.nil (tN ?_)
 rcases bif_some h with ⟨a, h⟩ | ⟨a, h⟩
 refine T.condT rfl a ?_
 refine T.seq (T.rL ?_)
 refine aw rfl ?_
 refine aw rfl ?_
 refine TL'.nil (tN ?_)
 refine T.ret (thenS_ret ?_)
 exact Fin.doneK (.cons _ _ _ _ (.tmp 2 _ rfl) (.cons _ _ _ _ (.tmp 3 _ rfl) .nil)) (.cons 0 rfl (.cons 0 rfl (.cons 0 rfl (.nil _)))) (by cases h; exact ⟨rfl, rfl⟩)
 refine T.condF rfl a ?_
 refine T.skip (tN ?_)
 refine T.seq (T.rL ?_)
 refine mw rfl ?_
 refine sp rfl (OpT.lenSlM (xs := x0) (f := c_aNd) rfl (dk rfl) ul22 rfl ?_)
 obtain ⟨d, h⟩ := ck_some h
 obtain ⟨g, h⟩ := ck_some h
 refine sp rfl (OpT.makeSliceX (f := cS) (zv := ((⟨#[]⟩ : ByteArray) : ByteArray)) rfl (dk rfl) ul47 i9 (by decide) rfl rfl rfl rfl rfl d g (fun i => ?_))
 refine aw rfl ?_
 refine TL'.nil (tN ?_)
 refine T.seq ?_
 refine T.seq (T.rL ?_)
 refine mw rfl ?_
 refine sp rfl (OpT.lenSlM (xs := x0) (f := c_aNd) rfl (dk rfl) ul22 rfl ?_)
 refine mw rfl ?_
 refine TL'.nil (tN ?_)
 refine T.block ?_
 refine T.loop ?_
 refine TL.by_turn ?_ (pT_l0_T K K x0 (x0.length : Int) (0 : Int) (List.replicate (Int.toNat (x0.length : Int)) ((⟨#[]⟩ : ByteArray) : ByteArray)) flx0 i h)
 exact Turn.rp (.cons rfl (.cons rfl (.cons rfl (.cons rfl (.cons rfl (.nil _)))))) (.c .z (.c .z (.c .z (.c .z (.n _)))))
abbrev l5_shown_q (r : Bool) : Exit → St → Prop := retS Tryd.prog Tryd.f11 (fun y t => y = (.bool r) ∧ t = [.tab 1 pow10V, .ro 2 deBruijnD, .ro 3 deBruijn32D])
theorem l5_shown_T (K : Nat) {r : Bool} (h : l5_shown K = some r) : CallR Tryd.prog 11 [] [.tab 1 pow10V, .ro 2 deBruijnD, .ro 3 deBruijn32D] (.bool r) := by
 refine CallT.intro Tryd.func11 rfl (nb rfl) ?_
 show T Tryd.prog 21 (Code.at [] (codeOf Tryd.f11)) ⟨paramSlots 0 [], [.tab 1 pow10V, .ro 2 deBruijnD, .ro 3 deBruijn32D]⟩ (l5_shown_q r)
 unfold l5_shown at h
 refine T.seq (T.rL ?_)
 refine aw rfl ?_
 refine TL'.nil (tN (T.seq (T.rL ?_)))
 obtain ⟨d, b, h⟩ := bind_some h
 refine sp rfl (OpT.callPA rfl (dk rfl) Tryd.func25 rfl rfl (Args.cons rfl Args.nil) (CallR.nil (r4_Parse_T K b)) ?_)
 refine mw rfl ?_
 refine sp rfl (OpT.extract rfl (dk rfl) rfl rfl ?_)
 refine sp rfl (OpT.extract rfl (dk rfl) rfl rfl ?_)
 refine sp rfl (OpT.extract rfl (dk rfl) rfl rfl ?_)
 refine aw rfl ?_
 refine aw rfl ?_
 refine aw rfl ?_
 refine TL'.nil (tN (T.seq (T.rL ?_)))
 refine mw rfl ?_
 obtain ⟨f, c, h⟩ := bind_some h
 refine sp rfl (OpT.callRoA rfl (dk rfl) Tryd.func9 rfl rfl (Args.cons rfl Args.nil) (.tab 0 rfl (.cons 1 rfl (.cons 2 rfl (.nil)))) (pT_T K (flx0 := false) c) ?_)
 refine mw rfl ?_
 refine sp rfl (OpT.extract rfl (dk rfl) rfl rfl ?_)
 refine sp rfl (OpT.extract rfl (dk rfl) rfl rfl ?_)
 refine aw rfl ?_
 refine aw rfl ?_
 refine TL'.nil (tN (T.seq (T.rL ?_)))
 refine mw rfl ?_
 refine sp rfl (OpT.str_eql rfl (dk rfl) rfl rfl ?_)
 refine mw rfl ?_
 rcases bif_some h with ⟨a, h⟩ | ⟨a, h⟩
 refine TL'.step (.on rfl rfl rfl a) (OpT.move rfl (dk rfl) rfl ?_)
 refine sp rfl (OpT.pickT rfl (dk rfl) rfl a rfl ?_)
 refine aw rfl ?_
 refine TL'.nil (tN ?_)
 refine T.ret ?_
 exact Fin.doneK (.cons _ _ _ _ (.tmp 0 _ rfl) .nil) (.cons 0 rfl (.cons 0 rfl (.cons 0 rfl (.nil _)))) (by cases h; exact ⟨rfl, rfl⟩)
 refine TL'.pU (.off _ _ _ _ rfl rfl rfl a) (dk rfl) ?_
 refine sp rfl (OpT.pickF rfl (dk rfl) rfl a rfl ?_)
 refine aw rfl ?_
 refine TL'.nil (tN ?_)
 refine T.ret ?_
 exact Fin.doneK (.cons _ _ _ _ (.tmp 0 _ rfl) .nil) (.cons 0 rfl (.cons 0 rfl (.cons 0 rfl (.nil _)))) (by cases h; exact ⟨rfl, rfl⟩)
end Go.Rv

/- Trimming, plainly: what was trimmed is live, stays, and has no two that are alike. -/
import Derived.Test.YtcmfaclkgdmpbaaGreatDoorRpUN
namespace Go.Rv
theorem send_rule (to : List Int) (S : List Qa) (i : Nat) : (stA (Ef to S) i).Rule = (stA S i).Rule ∧ (stA (Ef to S) i).R = (stA S i).R := by rw [Tm]; exact ⟨rfl, rfl⟩
theorem Qd6 {s t : Qa} (h : s.Rule = t.Rule) : D5 s = D5 t := by rw [D5, D5, h]
def allLive (S : List Qa) : Prop := ∀ i, i < S.length → ∀ m ∈ mvs S i, 0 ≤ m.To → Qei S m.To.toNat
theorem bury_live {S : List Qa} {l : List Bool} (hl : Qes S l) {i : Nat} (h : Qei S i) : Qei (V5 S l) i := by
 induction h with
 | rule a b =>
  refine .rule (by rw [V5, Hu]; exact a) ?_
  show D5 (stA (Ef (Qfb l) S) _) = true
  rw [Qd6 (send_rule _ _ _).1]; exact b
 | step m a b c d ih =>
  refine .step m (by rw [V5, Hu]; exact a) ?_ c ih
  rw [V5, Qcy]
  refine Qhe.2 ⟨m, b, ?_⟩
  have hg : (Qfb l).getD m.To.toNat (-1) = m.To := by rw [Qdi, if_pos ((hl.iff _).2 d)]; omega
  rw [Ca, if_pos ⟨c, by rw [hg]; exact c⟩, hg]
theorem bury_all {S : List Qa} {l : List Bool} (hl : Qes S l) : allLive (V5 S l) := fun _ _ m hm h0 => bury_live hl ((hl.iff _).1 (bury_to hm h0).2)
def Qak (S : List Qa) (i : Nat) : Nat := (X0 S).idxOf ((X0 S).getD i 0)
theorem Qc2 {S : List Qa} (hT : toOk S) {i : Nat} (hi : i < S.length) : Qak S i < S.length ∧ eqL (X0 S) (Qak S i) i ∧ Qak S i ≤ i := by
 have hb := Jc hT
 obtain ⟨g1, g2, g3⟩ := Qfz (l := X0 S) (i := i) (by rw [hb.len]; exact hi)
 rw [Qak, Za (by rw [hb.len]; exact hi)]
 exact ⟨by have := hb.len; omega, g3, g1⟩
theorem rep_eq {S : List Qa} {i j : Nat} (h : eqL (X0 S) i j) : Qak S i = Qak S j := by rw [Qak, Qak, show (X0 S).getD i 0 = (X0 S).getD j 0 from h]
theorem Qc1 {S : List Qa} (hT : toOk S) {i : Nat} (hi : i < S.length) : Qak S i = 0 ↔ i = 0 := by
 obtain ⟨g1, g2, g3⟩ := Qc2 hT hi
 constructor
 ·intro h
  rcases (Jc hT).sim _ _ g1 hi g2 with h' | h'
  ·exact h'.2
  ·omega
 ·intro h; omega
theorem Qdf {S : List Qa} (hT : toOk S) {i : Nat} (hi : i < S.length) {q : Qc} (hq : q ∈ mvs S i) (h0 : 0 ≤ q.To) : Ca (Ra (X0 S)) q = ⟨(Qak S q.To.toNat : Int), q.Ops⟩ := by
 have hq' := hT i hi q hq
 have hl := (Jc hT).len
 have hj : (Ra (X0 S)).getD q.To.toNat (-1) = (Qak S q.To.toNat : Int) := by
  rw [Qdg (by omega), Qak, Za (by omega)]
 rw [Ca, hj, if_pos ⟨h0, by omega⟩]
theorem send_neg {to : List Int} {m : Qc} (h : m.To < 0) : Ca to m = ⟨-1, []⟩ := by rw [Ca, if_neg (by omega)]
theorem join_live {S : List Qa} (hT : toOk S) {i : Nat} (h : Qei S i) : Qei (S4 S) (Qak S i) := by
 have hb := Jc hT
 induction h with
 | @rule i a b =>
  obtain ⟨g1, g2, g3⟩ := Qc2 hT a
  refine .rule (by rw [S4, Hu]; exact g1) ?_
  show D5 (stA (Ef (Ra (X0 S)) S) _) = true
  rw [Qd6 (send_rule _ _ _).1]
  rcases hb.sim _ _ g1 a g2 with h | h
  ·rw [h.1, ← h.2]; exact b
  ·rw [Qd6 h.2.2.2.1]; exact b
 | @step i m a b c d ih =>
  obtain ⟨g1, g2, g3⟩ := Qc2 hT a
  have key : ∃ q ∈ mvs S (Qak S i), 0 ≤ q.To ∧ eqL (X0 S) q.To.toNat m.To.toNat := by
   rcases hb.sim _ _ g1 a g2 with h | ⟨_, _, _, _, hl, hk⟩
   ·rw [h.1, ← h.2]; exact ⟨m, b, c, rfl⟩
   ·obtain ⟨k, hk', rfl⟩ := Qhg b
    rcases hk k (by omega) hk' with h | h
    ·omega
    ·exact ⟨_, Qgm _, h.1, h.2.2.2⟩
  obtain ⟨q, hq, h0, he⟩ := key
  refine .step (Ca (Ra (X0 S)) q) (by rw [S4, Hu]; exact g1) (by rw [S4, Qcy]; exact Qhe.2 ⟨q, hq, rfl⟩) ?_ ?_
  ·rw [Qdf hT g1 hq h0]; dsimp only; omega
  ·rw [Qdf hT g1 hq h0]; dsimp only; rw [Qgp, rep_eq he]; exact ih
theorem join_all {S : List Qa} (hT : toOk S) (ha : allLive S) : allLive (S4 S) := fun i hi m hm h0 => by
 rw [S4, Hu] at hi
 obtain ⟨q, hq, h1, _, h2⟩ := join_to hT hi hm h0
 have := join_live hT (ha i hi q hq h1)
 rw [h2, Qgp]
 exact this
theorem keep_move {S : List Qa} (hT : toOk S) (h0 : 0 < S.length) {x : Nat} (hx : x ∈ X4 S) {m : Qc} (hm : m ∈ mvs S x) (hc : 0 ≤ m.To) : Ca (Eu S.length (X4 S)) m = ⟨((X4 S).idxOf m.To.toNat : Int), m.Ops⟩ := by
 have ho := Ex hT h0
 have hin := ho.closed x hx m hm hc
 have hg : (Eu S.length (X4 S)).getD m.To.toNat (-1) = ((X4 S).idxOf m.To.toNat : Int) := by rw [Tz (ho.lt _ hin), if_pos hin]
 rw [Ca, hg, if_pos ⟨hc, by omega⟩]
theorem keep_mvs {S : List Qa} {i : Nat} (h : i < (X4 S).length) : mvs (Qde S) i = (mvs S ((X4 S)[i])).map (Ca (Eu S.length (X4 S))) := by
 rw [mvs, Qfy h, send_flat]; rfl
def Rw (S : List Qa) (l : List Bool) (b : Bool) : List Qa := if b = true then S4 (V5 S l) else V5 S l
theorem mid_spec {S : List Qa} {l : List Bool} (b : Bool) (hT : toOk S) (hl : Qes S l) : toOk (Rw S l b) ∧ (Rw S l b).length = S.length ∧ allLive (Rw S l b) := by
 have h1 := bury_ok (l := l) hT
 have h2 : (V5 S l).length = S.length := by rw [V5, Hu]
 rw [Rw]
 split
 ·exact ⟨join_ok h1, by rw [S4, Hu, h2], join_all h1 (bury_all hl)⟩
 ·exact ⟨h1, h2, bury_all hl⟩
theorem Qcr (S : List Qa) (l : List Bool) (b : Bool) : B9 S l b = Qde (Rw S l b) := rfl
theorem trim_own {S : List Qa} {l : List Bool} (hT : toOk S) (h0 : 0 < S.length) (hl : Qes S l) (hTp : toOk (B9 S l true)) {i j : Nat} (hi : i < (B9 S l true).length) (hj : j < (B9 S l true).length) (he : eqL (X0 (B9 S l true)) i j) : i = j := by
 obtain ⟨m1, m2, m3⟩ := mid_spec true hT hl
 have hB := bury_ok (l := l) hT
 have hBl : (V5 S l).length = S.length := by rw [V5, Hu]
 have hbB := Jc hB
 have hbp := Jc hTp
 have hJ : Rw S l true = S4 (V5 S l) := rfl
 rw [Qcr, P9] at hi hj
 have ho := Ex m1 (by omega)
 obtain ⟨z1, z2, z3⟩ := order_zero m1 (by omega)
 have z4 : (X4 (Rw S l true))[0] = 0 := by rw [Za z1] at z2; exact z2
 -- those that are kept stand for themselves
 have hself : ∀ k, (h : k < (X4 (Rw S l true)).length) → Qak (V5 S l) (X4 (Rw S l true))[k] = (X4 (Rw S l true))[k] := fun k h => by
  rcases ho.why _ (Qgm h) with h' | ⟨a, ha, m, hm, hc, hx⟩
  ·have hk := Qgo.1 h'
   rw [hk]
   exact (Qc1 hB (by omega)).2 rfl
  ·obtain ⟨q, hq, h1, _, h2⟩ := join_to hB (by have := ho.lt a ha; omega) hm hc
   have hql := hB a (by have := ho.lt a ha; omega) q hq
   rw [hx, h2, Qgp]
   exact rep_eq (Qc2 hB (i := q.To.toNat) (by omega)).2.1
 let E : Nat → Nat → Prop := fun x y => x < S.length ∧ y < S.length ∧ ∃ i j, ∃ (hi : i < (X4 (Rw S l true)).length) (hj : j < (X4 (Rw S l true)).length), (X4 (Rw S l true))[i] = Qak (V5 S l) x ∧ (X4 (Rw S l true))[j] = Qak (V5 S l) y ∧ eqL (X0 (B9 S l true)) i j
 -- a state, the one that stands for it, and that as it is kept
 have hst : ∀ x i, (hx : x < S.length) → (hi : i < (X4 (Rw S l true)).length) → (X4 (Rw S l true))[i] = Qak (V5 S l) x → 0 < x → (stA (B9 S l true) i).R = (stA (V5 S l) x).R ∧ (stA (B9 S l true) i).Rule = (stA (V5 S l) x).Rule ∧ (mvs (B9 S l true) i).length = (mvs (V5 S l) x).length ∧
   ∀ k, (h1 : k < (mvs (B9 S l true) i).length) → (h2 : k < (mvs (V5 S l) x).length) → ((mvs (B9 S l true) i)[k].To < 0 ∧ (mvs (V5 S l) x)[k].To < 0) ∨ (0 ≤ (mvs (B9 S l true) i)[k].To ∧ 0 ≤ (mvs (V5 S l) x)[k].To ∧ (mvs (B9 S l true) i)[k].Ops = (mvs (V5 S l) x)[k].Ops ∧ (mvs (V5 S l) x)[k].To < S.length ∧ ∃ (h : (mvs (B9 S l true) i)[k].To.toNat < (X4 (Rw S l true)).length), (X4 (Rw S l true))[(mvs (B9 S l true) i)[k].To.toNat] = Qak (V5 S l) (mvs (V5 S l) x)[k].To.toNat) := fun x i hx hi hxi h0x => by
  obtain ⟨g1, g2, _⟩ := Qc2 hB (i := x) (by omega)
  rcases hbB.sim _ _ g1 (by omega) g2 with h | ⟨_, _, s1, s2, s3, s4⟩
  ·omega
  ·have e1 : stA (B9 S l true) i = Ov (Eu (Rw S l true).length (X4 (Rw S l true))) (stA (Rw S l true) (Qak (V5 S l) x)) := by rw [Qcr, Qfy hi, hxi]
   have e2 : stA (Rw S l true) (Qak (V5 S l) x) = Ov (Ra (X0 (V5 S l))) (stA (V5 S l) (Qak (V5 S l) x)) := by rw [hJ, S4, Tm]
   have e3 : mvs (B9 S l true) i = (mvs (Rw S l true) (Qak (V5 S l) x)).map (Ca (Eu (Rw S l true).length (X4 (Rw S l true)))) := by rw [Qcr, keep_mvs hi, hxi]
   have e4 : mvs (Rw S l true) (Qak (V5 S l) x) = (mvs (V5 S l) (Qak (V5 S l) x)).map (Ca (Ra (X0 (V5 S l)))) := by rw [hJ, S4, Qcy]
   have hlen : (mvs (B9 S l true) i).length = (mvs (V5 S l) x).length := by rw [e3, e4, Qgn, Qgn]; exact s3
   refine ⟨by rw [e1, e2]; exact s1, by rw [e1, e2]; exact s2, hlen, fun k h1 h2 => ?_⟩
   have h3 : k < (mvs (V5 S l) (Qak (V5 S l) x)).length := by omega
   have h4 : k < (mvs (Rw S l true) (Qak (V5 S l) x)).length := by rw [e4, Qgn]; exact h3
   have f1 : (mvs (Rw S l true) (Qak (V5 S l) x))[k] = Ca (Ra (X0 (V5 S l))) (mvs (V5 S l) (Qak (V5 S l) x))[k] := by simp only [e4, Qhq]
   have f2 : (mvs (B9 S l true) i)[k] = Ca (Eu (Rw S l true).length (X4 (Rw S l true))) (mvs (Rw S l true) (Qak (V5 S l) x))[k] := by simp only [e3, Qhq]
   rcases s4 k h3 h2 with h | ⟨a1, a2, a3, a4⟩
   ·refine .inl ⟨?_, h.2⟩
    rw [f2, f1, send_neg h.1, send_neg (by decide)]; decide
   ·have hr1 := rep_eq a4
    have hmem : (mvs (Rw S l true) (Qak (V5 S l) x))[k] ∈ mvs (Rw S l true) (Qak (V5 S l) x) := Qgm h4
    have hro : Qak (V5 S l) x ∈ X4 (Rw S l true) := by rw [← hxi]; exact Qgm hi
    rw [f1, Qdf hB g1 (Qgm h3) a1, hr1] at hmem
    have hin := ho.closed _ hro _ hmem (by dsimp only; omega)
    dsimp only at hin
    rw [Qgp] at hin
    have hkm := keep_move m1 (by omega) hro hmem (by dsimp only; omega)
    rw [f2, f1, Qdf hB g1 (Qgm h3) a1, hr1, hkm]
    dsimp only
    rw [Qgp, Qgp]
    refine .inr ⟨by omega, a2, a3, ?_, Qht.2 hin, Qig _⟩
    have := hB x (by omega) _ (Qgm h2)
    omega
 have hE := hbB.big E (fun x y ⟨hx, hy, i, j, hi, hj, hxi, hyj, he⟩ => ⟨by omega, by omega, by
  have hil : i < (B9 S l true).length := by rw [Qcr, P9]; exact hi
  have hjl : j < (B9 S l true).length := by rw [Qcr, P9]; exact hj
  rcases hbp.sim i j hil hjl he with ⟨rfl, rfl⟩ | ⟨p1, p2, p3, p4, p5, p6⟩
  ·rw [z4] at hxi hyj
   exact .inl ⟨(Qc1 hB (by omega)).1 hxi.symm, (Qc1 hB (by omega)).1 hyj.symm⟩
  ·have hne : ∀ i, 0 < i → (hi : i < (X4 (Rw S l true)).length) → (X4 (Rw S l true))[i] ≠ 0 := fun i h0 hi e => by
    rw [← z4] at e
    have := (List.getElem_inj ho.nodup).1 e
    omega
   have hx0 : 0 < x := by
    refine Nat.pos_of_ne_zero fun e => hne i p1 hi ?_
    rw [hxi, e]; exact (Qc1 hB (by omega)).2 rfl
   have hy0 : 0 < y := by
    refine Nat.pos_of_ne_zero fun e => hne j p2 hj ?_
    rw [hyj, e]; exact (Qc1 hB (by omega)).2 rfl
   obtain ⟨u1, u2, u3, u4⟩ := hst x i hx hi hxi hx0
   obtain ⟨v1, v2, v3, v4⟩ := hst y j hy hj hyj hy0
   refine .inr ⟨hx0, hy0, by rw [← u1, p3, v1], by rw [← u2, p4, v2], by rw [← u3, p5, v3], fun k h1 h2 => ?_⟩
   have k1 : k < (mvs (B9 S l true) i).length := by omega
   have k2 : k < (mvs (B9 S l true) j).length := by omega
   rcases u4 k k1 h1 with ⟨a1, a2⟩ | ⟨a1, a2, a3, a4, a5, a6⟩ <;> rcases v4 k k2 h2 with ⟨b1, b2⟩ | ⟨b1, b2, b3, b4, b5, b6⟩ <;> rcases p6 k k1 k2 with ⟨c1, c2⟩ | ⟨c1, c2, c3, c4⟩
   ·exact .inl ⟨a2, b2⟩
   ·omega
   ·omega
   ·omega
   ·omega
   ·omega
   ·omega
   ·exact .inr ⟨a2, b2, by rw [← a3, c3, b3], by omega, by omega, _, _, a5, b5, a6, b6, c4⟩⟩)
 have hx := ho.lt _ (Qgm hi)
 have hy := ho.lt _ (Qgm hj)
 have := rep_eq (hE (X4 (Rw S l true))[i] (X4 (Rw S l true))[j] ⟨by omega, by omega, i, j, hi, hj, (hself i hi).symm, (hself j hj).symm, he⟩)
 rw [hself i hi, hself j hj] at this
 exact (List.getElem_inj ho.nodup).1 this
end Go.Rv
namespace Go.Rv
end Go.Rv

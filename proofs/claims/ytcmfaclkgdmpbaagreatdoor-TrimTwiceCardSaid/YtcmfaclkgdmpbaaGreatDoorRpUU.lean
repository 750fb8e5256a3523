/- Trimming, plainly: what was trimmed is live, stays, and has no two that are alike. -/
import Derived.Test.YtcmfaclkgdmpbaaGreatDoorRpUN
namespace Go.Rv
theorem send_rule (to : List Int) (S : List Qa) (i : Nat) : (stA (Df to S) i).Rule = (stA S i).Rule ∧ (stA (Df to S) i).R = (stA S i).R := by rw [Qbz]; exact ⟨rfl, rfl⟩
theorem Qgg {s t : Qa} (h : s.Rule = t.Rule) : Iu s = Iu t := by rw [Iu, Iu, h]
def Qic (S : List Qa) : Prop := ∀ i, i < S.length → ∀ m ∈ mvs S i, 0 ≤ m.To → Qbm S m.To.toNat
theorem bury_live {S : List Qa} {l : List Bool} (hl : Ow S l) {i : Nat} (h : Qbm S i) : Qbm (Uu S l) i := by
 induction h with
 | rule a b =>
  refine .rule (by rw [Uu, Lu]; exact a) ?_
  show Iu (stA (Df (Qhc l) S) _) = true
  rw [Qgg (send_rule _ _ _).1]; exact b
 | step m a b c d ih =>
  refine .step m (by rw [Uu, Lu]; exact a) ?_ c ih
  rw [Uu, Qe6]
  refine List.mem_map.2 ⟨m, b, ?_⟩
  have hg : (Qhc l).getD m.To.toNat (-1) = m.To := by rw [Qch, if_pos ((hl.iff _).2 d)]; omega
  rw [K8, if_pos ⟨c, by rw [hg]; exact c⟩, hg]
theorem bury_all {S : List Qa} {l : List Bool} (hl : Ow S l) : Qic (Uu S l) := fun _ _ m hm h0 => bury_live hl ((hl.iff _).1 (bury_to hm h0).2)
def Qc1 (S : List Qa) (i : Nat) : Nat := (Vh S).idxOf ((Vh S).getD i 0)
theorem Qfa {S : List Qa} (hT : toOk S) {i : Nat} (hi : i < S.length) : Qc1 S i < S.length ∧ eqL (Vh S) (Qc1 S i) i ∧ Qc1 S i ≤ i := by
 have hb := Jy hT
 obtain ⟨g1, g2, g3⟩ := Qh0 (l := Vh S) (i := i) (by rw [hb.len]; exact hi)
 rw [Qc1, Zc (by rw [hb.len]; exact hi)]
 exact ⟨by have := hb.len; omega, g3, g1⟩
theorem rep_eq {S : List Qa} {i j : Nat} (h : eqL (Vh S) i j) : Qc1 S i = Qc1 S j := by rw [Qc1, Qc1, show (Vh S).getD i 0 = (Vh S).getD j 0 from h]
theorem Qe9 {S : List Qa} (hT : toOk S) {i : Nat} (hi : i < S.length) : Qc1 S i = 0 ↔ i = 0 := by
 obtain ⟨g1, g2, g3⟩ := Qfa hT hi
 constructor
 ·intro h
  rcases (Jy hT).sim _ _ g1 hi g2 with h' | h'
  ·exact h'.2
  ·omega
 ·intro h; omega
theorem Qfo {S : List Qa} (hT : toOk S) {i : Nat} (hi : i < S.length) {q : Qe} (hq : q ∈ mvs S i) (h0 : 0 ≤ q.To) : K8 (Ti (Vh S)) q = ⟨(Qc1 S q.To.toNat : Int), q.Ops⟩ := by
 have hq' := hT i hi q hq
 have hl := (Jy hT).len
 have hj : (Ti (Vh S)).getD q.To.toNat (-1) = (Qc1 S q.To.toNat : Int) := by
  rw [Qce (by omega), Qc1, Zc (by omega)]
 rw [K8, hj, if_pos ⟨h0, by omega⟩]
theorem Qhj {to : List Int} {m : Qe} (h : m.To < 0) : K8 to m = ⟨-1, []⟩ := by rw [K8, if_neg (by omega)]
theorem join_live {S : List Qa} (hT : toOk S) {i : Nat} (h : Qbm S i) : Qbm (Qbf S) (Qc1 S i) := by
 have hb := Jy hT
 induction h with
 | @rule i a b =>
  obtain ⟨g1, g2, g3⟩ := Qfa hT a
  refine .rule (by rw [Qbf, Lu]; exact g1) ?_
  show Iu (stA (Df (Ti (Vh S)) S) _) = true
  rw [Qgg (send_rule _ _ _).1]
  rcases hb.sim _ _ g1 a g2 with h | h
  ·rw [h.1, ← h.2]; exact b
  ·rw [Qgg h.2.2.2.1]; exact b
 | @step i m a b c d ih =>
  obtain ⟨g1, g2, g3⟩ := Qfa hT a
  have key : ∃ q ∈ mvs S (Qc1 S i), 0 ≤ q.To ∧ eqL (Vh S) q.To.toNat m.To.toNat := by
   rcases hb.sim _ _ g1 a g2 with h | ⟨_, _, _, _, hl, hk⟩
   ·rw [h.1, ← h.2]; exact ⟨m, b, c, rfl⟩
   ·obtain ⟨k, hk', rfl⟩ := List.getElem_of_mem b
    rcases hk k (by omega) hk' with h | h
    ·omega
    ·exact ⟨_, List.getElem_mem _, h.1, h.2.2.2⟩
  obtain ⟨q, hq, h0, he⟩ := key
  refine .step (K8 (Ti (Vh S)) q) (by rw [Qbf, Lu]; exact g1) (by rw [Qbf, Qe6]; exact List.mem_map.2 ⟨q, hq, rfl⟩) ?_ ?_
  ·rw [Qfo hT g1 hq h0]; dsimp only; omega
  ·rw [Qfo hT g1 hq h0]; dsimp only; rw [Int.toNat_natCast, rep_eq he]; exact ih
theorem join_all {S : List Qa} (hT : toOk S) (ha : Qic S) : Qic (Qbf S) := fun i hi m hm h0 => by
 rw [Qbf, Lu] at hi
 obtain ⟨q, hq, h1, _, h2⟩ := join_to hT hi hm h0
 have := join_live hT (ha i hi q hq h1)
 rw [h2, Int.toNat_natCast]
 exact this
theorem Qfn {S : List Qa} (hT : toOk S) (h0 : 0 < S.length) {x : Nat} (hx : x ∈ Z1 S) {m : Qe} (hm : m ∈ mvs S x) (hc : 0 ≤ m.To) : K8 (C5 S.length (Z1 S)) m = ⟨((Z1 S).idxOf m.To.toNat : Int), m.Ops⟩ := by
 have ho := Kn hT h0
 have hin := ho.closed x hx m hm hc
 have hg : (C5 S.length (Z1 S)).getD m.To.toNat (-1) = ((Z1 S).idxOf m.To.toNat : Int) := by rw [Sk (ho.lt _ hin), if_pos hin]
 rw [K8, hg, if_pos ⟨hc, by omega⟩]
theorem keep_mvs {S : List Qa} {i : Nat} (h : i < (Z1 S).length) : mvs (Po S) i = (mvs S ((Z1 S)[i])).map (K8 (C5 S.length (Z1 S))) := by
 rw [mvs, Qgf h, send_flat]; rfl
theorem keep_live {S : List Qa} (hT : toOk S) (h0 : 0 < S.length) {x : Nat} (h : Qbm S x) (hx : x ∈ Z1 S) : Qbm (Po S) ((Z1 S).idxOf x) := by
 have ho := Kn hT h0
 induction h with
 | @rule x a b =>
  have g := List.idxOf_lt_length_iff.2 hx
  refine .rule (by rw [B1]; exact g) ?_
  rw [Qgf g, List.getElem_idxOf g]
  exact b
 | @step x m a b c d ih =>
  have g := List.idxOf_lt_length_iff.2 hx
  have hin := ho.closed x hx m b c
  refine .step (K8 (C5 S.length (Z1 S)) m) (by rw [B1]; exact g) ?_ ?_ ?_
  ·rw [keep_mvs g, List.getElem_idxOf g]; exact List.mem_map.2 ⟨m, b, rfl⟩
  ·rw [Qfn hT h0 hx b c]; dsimp only; omega
  ·rw [Qfn hT h0 hx b c]; dsimp only; rw [Int.toNat_natCast]; exact ih hin
theorem keep_alive {S : List Qa} (hT : toOk S) (h0 : 0 < S.length) (ha : Qic S) {i : Nat} (h1 : 0 < i) (h2 : i < (Po S).length) : Qbm (Po S) i := by
 rw [B1] at h2
 have ho := Kn hT h0
 obtain ⟨z1, z2, z3⟩ := Qcs hT h0
 have hx := List.getElem_mem h2
 have e : (Z1 S).idxOf (Z1 S)[i] = i := by
  have g := List.idxOf_lt_length_iff.2 hx
  exact (List.getElem_inj ho.nodup).1 (List.getElem_idxOf g)
 have hl : Qbm S (Z1 S)[i] := by
  rcases ho.why _ hx with h | ⟨a, ha', m, hm, hc, he⟩
  ·rw [List.mem_singleton.1 h] at e; omega
  ·rw [he]; exact ha a (ho.lt a ha') m hm hc
 have := keep_live hT h0 hl hx
 rw [e] at this
 exact this
def Sq (S : List Qa) (l : List Bool) (b : Bool) : List Qa := if b = true then Qbf (Uu S l) else Uu S l
theorem Qhl {S : List Qa} {l : List Bool} (b : Bool) (hT : toOk S) (hl : Ow S l) : toOk (Sq S l b) ∧ (Sq S l b).length = S.length ∧ Qic (Sq S l b) := by
 have h1 := bury_ok (l := l) hT
 have h2 : (Uu S l).length = S.length := by rw [Uu, Lu]
 rw [Sq]
 split
 ·exact ⟨join_ok h1, by rw [Qbf, Lu, h2], join_all h1 (bury_all hl)⟩
 ·exact ⟨h1, h2, bury_all hl⟩
theorem I1 (S : List Qa) (l : List Bool) (b : Bool) : Bb S l b = Po (Sq S l b) := rfl
theorem trim_live {S : List Qa} {l : List Bool} {b : Bool} (hT : toOk S) (h0 : 0 < S.length) (hl : Ow S l) {i : Nat} (h1 : 0 < i) (h2 : i < (Bb S l b).length) : Qbm (Bb S l b) i := by
 obtain ⟨m1, m2, m3⟩ := Qhl b hT hl
 rw [I1] at h2 ⊢
 exact keep_alive m1 (by omega) m3 h1 h2
theorem trim_le {S : List Qa} {l : List Bool} {b : Bool} (hT : toOk S) (h0 : 0 < S.length) (hl : Ow S l) : (Bb S l b).length ≤ S.length := by
 obtain ⟨m1, m2, _⟩ := Qhl b hT hl
 have := Qfj m1 (by omega)
 rw [I1, B1]; omega
theorem trim_own {S : List Qa} {l : List Bool} (hT : toOk S) (h0 : 0 < S.length) (hl : Ow S l) (hTp : toOk (Bb S l true)) {i j : Nat} (hi : i < (Bb S l true).length) (hj : j < (Bb S l true).length) (he : eqL (Vh (Bb S l true)) i j) : i = j := by
 obtain ⟨m1, m2, m3⟩ := Qhl true hT hl
 have hB := bury_ok (l := l) hT
 have hBl : (Uu S l).length = S.length := by rw [Uu, Lu]
 have hbB := Jy hB
 have hbp := Jy hTp
 have hJ : Sq S l true = Qbf (Uu S l) := rfl
 rw [I1, B1] at hi hj
 have ho := Kn m1 (by omega)
 obtain ⟨z1, z2, z3⟩ := Qcs m1 (by omega)
 have z4 : (Z1 (Sq S l true))[0] = 0 := by rw [Zc z1] at z2; exact z2
 -- those that are kept stand for themselves
 have hself : ∀ k, (h : k < (Z1 (Sq S l true)).length) → Qc1 (Uu S l) (Z1 (Sq S l true))[k] = (Z1 (Sq S l true))[k] := fun k h => by
  rcases ho.why _ (List.getElem_mem h) with h' | ⟨a, ha, m, hm, hc, hx⟩
  ·have hk := List.mem_singleton.1 h'
   rw [hk]
   exact (Qe9 hB (by omega)).2 rfl
  ·obtain ⟨q, hq, h1, _, h2⟩ := join_to hB (by have := ho.lt a ha; omega) hm hc
   have hql := hB a (by have := ho.lt a ha; omega) q hq
   rw [hx, h2, Int.toNat_natCast]
   exact rep_eq (Qfa hB (i := q.To.toNat) (by omega)).2.1
 let E : Nat → Nat → Prop := fun x y => x < S.length ∧ y < S.length ∧ ∃ i j, ∃ (hi : i < (Z1 (Sq S l true)).length) (hj : j < (Z1 (Sq S l true)).length), (Z1 (Sq S l true))[i] = Qc1 (Uu S l) x ∧ (Z1 (Sq S l true))[j] = Qc1 (Uu S l) y ∧ eqL (Vh (Bb S l true)) i j
 -- a state, the one that stands for it, and that as it is kept
 have hst : ∀ x i, (hx : x < S.length) → (hi : i < (Z1 (Sq S l true)).length) → (Z1 (Sq S l true))[i] = Qc1 (Uu S l) x → 0 < x → (stA (Bb S l true) i).R = (stA (Uu S l) x).R ∧ (stA (Bb S l true) i).Rule = (stA (Uu S l) x).Rule ∧ (mvs (Bb S l true) i).length = (mvs (Uu S l) x).length ∧
   ∀ k, (h1 : k < (mvs (Bb S l true) i).length) → (h2 : k < (mvs (Uu S l) x).length) → ((mvs (Bb S l true) i)[k].To < 0 ∧ (mvs (Uu S l) x)[k].To < 0) ∨ (0 ≤ (mvs (Bb S l true) i)[k].To ∧ 0 ≤ (mvs (Uu S l) x)[k].To ∧ (mvs (Bb S l true) i)[k].Ops = (mvs (Uu S l) x)[k].Ops ∧ (mvs (Uu S l) x)[k].To < S.length ∧ ∃ (h : (mvs (Bb S l true) i)[k].To.toNat < (Z1 (Sq S l true)).length), (Z1 (Sq S l true))[(mvs (Bb S l true) i)[k].To.toNat] = Qc1 (Uu S l) (mvs (Uu S l) x)[k].To.toNat) := fun x i hx hi hxi h0x => by
  obtain ⟨g1, g2, _⟩ := Qfa hB (i := x) (by omega)
  rcases hbB.sim _ _ g1 (by omega) g2 with h | ⟨_, _, s1, s2, s3, s4⟩
  ·omega
  ·have e1 : stA (Bb S l true) i = Pr (C5 (Sq S l true).length (Z1 (Sq S l true))) (stA (Sq S l true) (Qc1 (Uu S l) x)) := by rw [I1, Qgf hi, hxi]
   have e2 : stA (Sq S l true) (Qc1 (Uu S l) x) = Pr (Ti (Vh (Uu S l))) (stA (Uu S l) (Qc1 (Uu S l) x)) := by rw [hJ, Qbf, Qbz]
   have e3 : mvs (Bb S l true) i = (mvs (Sq S l true) (Qc1 (Uu S l) x)).map (K8 (C5 (Sq S l true).length (Z1 (Sq S l true)))) := by rw [I1, keep_mvs hi, hxi]
   have e4 : mvs (Sq S l true) (Qc1 (Uu S l) x) = (mvs (Uu S l) (Qc1 (Uu S l) x)).map (K8 (Ti (Vh (Uu S l)))) := by rw [hJ, Qbf, Qe6]
   have hlen : (mvs (Bb S l true) i).length = (mvs (Uu S l) x).length := by rw [e3, e4, List.length_map, List.length_map]; exact s3
   refine ⟨by rw [e1, e2]; exact s1, by rw [e1, e2]; exact s2, hlen, fun k h1 h2 => ?_⟩
   have h3 : k < (mvs (Uu S l) (Qc1 (Uu S l) x)).length := by omega
   have h4 : k < (mvs (Sq S l true) (Qc1 (Uu S l) x)).length := by rw [e4, List.length_map]; exact h3
   have f1 : (mvs (Sq S l true) (Qc1 (Uu S l) x))[k] = K8 (Ti (Vh (Uu S l))) (mvs (Uu S l) (Qc1 (Uu S l) x))[k] := by simp only [e4, List.getElem_map]
   have f2 : (mvs (Bb S l true) i)[k] = K8 (C5 (Sq S l true).length (Z1 (Sq S l true))) (mvs (Sq S l true) (Qc1 (Uu S l) x))[k] := by simp only [e3, List.getElem_map]
   rcases s4 k h3 h2 with h | ⟨a1, a2, a3, a4⟩
   ·refine .inl ⟨?_, h.2⟩
    rw [f2, f1, Qhj h.1, Qhj (by decide)]; decide
   ·have hr1 := rep_eq a4
    have hmem : (mvs (Sq S l true) (Qc1 (Uu S l) x))[k] ∈ mvs (Sq S l true) (Qc1 (Uu S l) x) := List.getElem_mem h4
    have hro : Qc1 (Uu S l) x ∈ Z1 (Sq S l true) := by rw [← hxi]; exact List.getElem_mem hi
    rw [f1, Qfo hB g1 (List.getElem_mem h3) a1, hr1] at hmem
    have hin := ho.closed _ hro _ hmem (by dsimp only; omega)
    dsimp only at hin
    rw [Int.toNat_natCast] at hin
    have hkm := Qfn m1 (by omega) hro hmem (by dsimp only; omega)
    rw [f2, f1, Qfo hB g1 (List.getElem_mem h3) a1, hr1, hkm]
    dsimp only
    rw [Int.toNat_natCast, Int.toNat_natCast]
    refine .inr ⟨by omega, a2, a3, ?_, List.idxOf_lt_length_iff.2 hin, List.getElem_idxOf _⟩
    have := hB x (by omega) _ (List.getElem_mem h2)
    omega
 have hE := hbB.big E (fun x y ⟨hx, hy, i, j, hi, hj, hxi, hyj, he⟩ => ⟨by omega, by omega, by
  have hil : i < (Bb S l true).length := by rw [I1, B1]; exact hi
  have hjl : j < (Bb S l true).length := by rw [I1, B1]; exact hj
  rcases hbp.sim i j hil hjl he with ⟨rfl, rfl⟩ | ⟨p1, p2, p3, p4, p5, p6⟩
  ·rw [z4] at hxi hyj
   exact .inl ⟨(Qe9 hB (by omega)).1 hxi.symm, (Qe9 hB (by omega)).1 hyj.symm⟩
  ·have hne : ∀ i, 0 < i → (hi : i < (Z1 (Sq S l true)).length) → (Z1 (Sq S l true))[i] ≠ 0 := fun i h0 hi e => by
    rw [← z4] at e
    have := (List.getElem_inj ho.nodup).1 e
    omega
   have hx0 : 0 < x := by
    refine Nat.pos_of_ne_zero fun e => hne i p1 hi ?_
    rw [hxi, e]; exact (Qe9 hB (by omega)).2 rfl
   have hy0 : 0 < y := by
    refine Nat.pos_of_ne_zero fun e => hne j p2 hj ?_
    rw [hyj, e]; exact (Qe9 hB (by omega)).2 rfl
   obtain ⟨u1, u2, u3, u4⟩ := hst x i hx hi hxi hx0
   obtain ⟨v1, v2, v3, v4⟩ := hst y j hy hj hyj hy0
   refine .inr ⟨hx0, hy0, by rw [← u1, p3, v1], by rw [← u2, p4, v2], by rw [← u3, p5, v3], fun k h1 h2 => ?_⟩
   have k1 : k < (mvs (Bb S l true) i).length := by omega
   have k2 : k < (mvs (Bb S l true) j).length := by omega
   rcases u4 k k1 h1 with ⟨a1, a2⟩ | ⟨a1, a2, a3, a4, a5, a6⟩ <;> rcases v4 k k2 h2 with ⟨b1, b2⟩ | ⟨b1, b2, b3, b4, b5, b6⟩ <;> rcases p6 k k1 k2 with ⟨c1, c2⟩ | ⟨c1, c2, c3, c4⟩
   ·exact .inl ⟨a2, b2⟩
   ·omega
   ·omega
   ·omega
   ·omega
   ·omega
   ·omega
   ·exact .inr ⟨a2, b2, by rw [← a3, c3, b3], by omega, by omega, _, _, a5, b5, a6, b6, c4⟩⟩)
 have hx := ho.lt _ (List.getElem_mem hi)
 have hy := ho.lt _ (List.getElem_mem hj)
 have := rep_eq (hE (Z1 (Sq S l true))[i] (Z1 (Sq S l true))[j] ⟨by omega, by omega, i, j, hi, hj, (hself i hi).symm, (hself j hj).symm, he⟩)
 rw [hself i hi, hself j hj] at this
 exact (List.getElem_inj ho.nodup).1 this
end Go.Rv

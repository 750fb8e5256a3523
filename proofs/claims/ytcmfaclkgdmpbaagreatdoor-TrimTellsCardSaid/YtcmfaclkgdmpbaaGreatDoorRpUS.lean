/- Trimming, plainly: the reference's Of. -/
import Derived.Test.YtcmfaclkgdmpbaaGreatDoorRpUR
namespace Go.Rv
theorem rof_l3 (K : Nat) (o : List Int) (f : Q5) (mn : Int) (cs : List Ye) (S : List Qa) (g : Q5) : ∀ (q k i : Nat) (X Y : List Int), Y.length = q → q < k → X.length = i → i + q ≤ 256 →
  Jh K k o (i : Int) f mn cs S g (X ++ Y) = Ub K K o 0 f mn cs S g (X ++ List.replicate q (-1)) := by
 intro q
 induction q with
 | zero =>
  intro k i X Y hY hk hX hb
  obtain ⟨k, rfl⟩ : ∃ q, k = q + 1 := ⟨k - 1, by omega⟩
  rw [Qn3.1 hY, Jh]
  dsimp only
  rw [Qme (by rw [Qm1]; omega), cF]
  rfl
 | succ q ih =>
  intro k i X Y hY hk hX hb
  obtain ⟨k, rfl⟩ : ∃ q, k = q + 1 := ⟨k - 1, by omega⟩
  obtain ⟨y, Y, rfl⟩ : ∃ y Y', Y = y :: Y' := by
   cases Y with
   | nil => simp at hY
   | cons y Y => exact ⟨y, Y, rfl⟩
  rw [Qmw] at hY
  have hg := Qb4 X Y y
  have hs := Qbh X Y y (-1)
  rw [hX] at hg hs
  rw [Jh]
  dsimp only
  rw [Qmk (by rw [Qmc, Qmw]; omega), cT, hg, bS, Qml, hs, B1 (n := i) (by omega)]
  have := ih k (i + 1) (X ++ [-1]) Y (by omega) (by omega) (by rw [Qmc, Qmh]; omega) (by omega)
  rw [Qmd, Qmd] at this
  exact this
theorem rof_l5 (K : Nat) (f : Q5) (mn : Int) (cs : List Ye) (S : List Qa) (g : Q5) (c2 : List Ye) (s2 : List Qa) (f3 : Q5) (mn3 : Int) (cs3 : List Ye) (r : List Nat) (hr : ∀ x ∈ r, x < S.length) (hrl : r.length ≤ 256) : ∀ (q k i : Nat) (X : List Qa), r.length - i = q → q < k → X.length = i → i ≤ r.length →
  Jg K k (Z0 r) (i : Int) f mn cs S g c2 s2 f3 mn3 cs3 X = some (⟨⟨f3, mn3⟩, cs3, X ++ (r.drop i).map (stA S)⟩, 0) := by
 have hcl : (Z0 r).length = r.length := by rw [Z0, Qmf]
 intro q
 induction q with
 | zero =>
  intro k i X hq hk hX hi
  obtain ⟨k, rfl⟩ : ∃ q, k = q + 1 := ⟨k - 1, by omega⟩
  rw [Jg]
  dsimp only
  rw [hcl, Qme (by omega), cF, Qmn (by omega), Qob, Qm1]
 | succ q ih =>
  intro k i X hq hk hX hi
  obtain ⟨k, rfl⟩ : ∃ q, k = q + 1 := ⟨k - 1, by omega⟩
  have hil : i < r.length := by omega
  have hx := hr _ (Qmg hil)
  rw [Jg]
  dsimp only
  rw [hcl, Qmk (by omega), cT, Wz hil, Zb hil, bS, Q2 hx, bS, Z5 (Zn.2 ⟨by simp only [maxLen, Qmh]; omega, by simp only [Qmh]; omega⟩), B1 (n := i) (by omega), ih k (i + 1) _ (by omega) (by omega) (by rw [Qmc, Qmh]; omega) (by omega), Qmi hil, Qmv, Wq hx, Qmd]
  rfl
theorem rof_l4 (K : Nat) (hK : 10000 ≤ K) {a : Qc} (h : RQ a) (g : Q5) (r : List Nat) (hn : r.Nodup) (hr : ∀ x ∈ r, x < a.States.length) : ∀ (q k i : Nat), r.length - i = q → q < k → i ≤ r.length →
  Ub K k (Z0 r) (i : Int) a.Split.Of a.Split.Many a.Counts a.States g (Ow a.States.length (r.take i)) = some (withS a (r.map fun i => Qem (Ow a.States.length r) (stA a.States i)), 0) := by
 have hcl : (Z0 r).length = r.length := by rw [Z0, Qmf]
 have hn2 := h.n2
 have hrl := Sv r (List.range a.States.length) hn fun x hx => Qny.2 (hr x hx)
 rw [Qm9] at hrl
 intro q
 induction q with
 | zero =>
  intro k i hq hk hi
  obtain ⟨k, rfl⟩ : ∃ q, k = q + 1 := ⟨k - 1, by omega⟩
  have hm := moved_of (K := K) (by omega) h (to := Ow a.States.length r) (Kp _ _)
  have e : (⟨⟨a.Split.Of, a.Split.Many⟩, a.Counts, a.States⟩ : Qc) = a := rfl
  rw [Ub]
  dsimp only
  rw [hcl, Qme (by omega), cF, Qnc (by omega), e, hm, bS]
  dsimp only [withS]
  have := rof_l5 K a.Split.Of a.Split.Many a.Counts (N8 (Ow a.States.length r) a.States) g [] [] a.Split.Of a.Split.Many a.Counts r (fun x hx => by rw [F4]; exact hr x hx) (by omega) r.length K 0 [] rfl (by omega) rfl (Qmm _)
  rw [Qmr, Qmu, Qmq] at this
  rw [this]
  congr 4
  exact funext fun x => Qjh _ _ _
 | succ q ih =>
  intro k i hq hk hi
  obtain ⟨k, rfl⟩ : ∃ q, k = q + 1 := ⟨k - 1, by omega⟩
  have hil : i < r.length := by omega
  have hx := hr _ (Qmg hil)
  have hnot : r[i] ∉ r.take i := fun hc => by
   rw [Qpd] at hc
   obtain ⟨j, hj, e⟩ := hc
   have := (List.getElem_inj hn).1 e
   omega
  have hset := Qjr hx hnot
  rw [Qna, Qop (by omega), ← T4 hil] at hset
  rw [Ub]
  dsimp only
  rw [hcl, Qmk (by omega), cT, Wz hil, Zb hil, bS, Qb3 (-1) (by rw [Kp]; exact hx), bS, Qml, hset, B1 (n := i) (by omega)]
  exact ih k (i + 1) (by omega) (by omega) (by omega)
theorem rof_j2 (K : Nat) (hK : 10000 ≤ K) {a : Qc} (h : RQ a) (g : Q5) (T : List Int) (hT : T.length = a.States.length) : Ud K a.Split.Of a.Split.Many a.Counts a.States g T = some (withS a (Qjs a.States), 0) := by
 have hn := h.n2
 have ho := Qaz h.toOk (by have := h.n1; omega)
 have e : (⟨⟨a.Split.Of, a.Split.Many⟩, a.Counts, a.States⟩ : Qc) = a := rfl
 rw [Ud, e, reached_ok hK h, bS]
 have h3 := rof_l3 K (Z0 (Cm a.States)) a.Split.Of a.Split.Many a.Counts a.States g T.length K 0 [] T rfl (by omega) rfl (by omega)
 rw [Qmr, Qmq, Qmq] at h3
 have e3 : List.replicate T.length (-1 : Int) = Ow a.States.length ((Cm a.States).take 0) := by
  refine Qn7 (by rw [Kp, Qm2, hT]) fun i h1 h2 => ?_
  simp [Ow]
 have h4 := rof_l4 K hK h g (Cm a.States) ho.nodup ho.lt (Cm a.States).length K 0 rfl (by have := Qlj h.toOk (by have := h.n1; omega); omega) (Qmm _)
 rw [Qmr] at h4
 rw [h3, e3, h4]
 rfl
instance (l : List Nat) (a b : Nat) : Decidable (eqL l a b) := inferInstanceAs (Decidable (_ = _))
theorem rof_l6 (K : Nat) (go : (List Int) → Int → Q5 → Int → (List Ye) → (List Qa) → Q5 → (List Int) → Option (Qc × Int)) (l : List Nat) (hl : l.length ≤ 256) (i : Nat) (hi : i < l.length) (f : Q5) (mn : Int) (cs : List Ye) (S : List Qa) (g : Q5) : ∀ (q k j : Nat) (T : List Int), l.length - j = q → q < k → j ≤ l.length → T.length = l.length →
  ∃ T', T'.length = l.length ∧ (∀ m, T'.getD m (-1) = if j ≤ m ∧ m < l.length ∧ eqL l m i then (i : Int) else T.getD m (-1)) ∧ Vg K go k (Z0 l) (i : Int) (j : Int) f mn cs S g T = go (Z0 l) ((i : Int) - 1) f mn cs S g T' := by
 have hcl : (Z0 l).length = l.length := by rw [Z0, Qmf]
 intro q
 induction q with
 | zero =>
  intro k j T hq hk hj hT
  obtain ⟨k, rfl⟩ : ∃ q, k = q + 1 := ⟨k - 1, by omega⟩
  refine ⟨T, hT, fun m => by rw [if_neg (by omega)], ?_⟩
  rw [Vg]
  dsimp only
  rw [hcl, Qme (by omega), cF, w64 (by omega) (by omega)]
 | succ q ih =>
  intro k j T hq hk hj hT
  obtain ⟨k, rfl⟩ : ∃ q, k = q + 1 := ⟨k - 1, by omega⟩
  have hjl : j < l.length := by omega
  by_cases he : eqL l j i
  ·obtain ⟨T', t1, t2, t3⟩ := ih k (j + 1) (T.set j (i : Int)) (by omega) (by omega) (by omega) (by rw [Qne]; exact hT)
   refine ⟨T', t1, fun m => ?_, ?_⟩
   ·rw [t2 m]
    by_cases hm : j + 1 ≤ m ∧ m < l.length ∧ eqL l m i
    ·rw [if_pos hm, if_pos ⟨by omega, hm.2⟩]
    ·rw [if_neg hm]
     by_cases hmj : m = j
     ·subst hmj
      rw [if_pos ⟨Qms _, hjl, he⟩, Zb (by rw [Qne]; omega), Qoa]
     ·rw [if_neg fun hc => hm ⟨by omega, hc.2⟩]
      simp only [List.getD, List.getElem?_set_ne (Ne.symm hmj)]
   ·rw [Vg]
    dsimp only
    have he' : ((l.getD j 0 : Nat) : Int) = ((l.getD i 0 : Nat) : Int) := by rw [show l.getD j 0 = l.getD i 0 from he]
    rw [hcl, Qmk (by omega), cT, Wz hjl, bS, Wz hi, bS, Qn0.2 he', cT, Qb3 (-1) (by omega), bS, Qml, B1 (n := j) (by omega), t3]
  ·obtain ⟨T', t1, t2, t3⟩ := ih k (j + 1) T (by omega) (by omega) (by omega) hT
   refine ⟨T', t1, fun m => ?_, ?_⟩
   ·rw [t2 m]
    by_cases hm : j + 1 ≤ m ∧ m < l.length ∧ eqL l m i
    ·rw [if_pos hm, if_pos ⟨by omega, hm.2⟩]
    ·rw [if_neg hm, if_neg fun hc => ?_]
     by_cases hmj : m = j
     ·subst hmj; exact he hc.2.2
     ·exact hm ⟨by omega, hc.2⟩
   ·rw [Vg]
    dsimp only
    have he' : ¬((l.getD j 0 : Nat) : Int) = ((l.getD i 0 : Nat) : Int) := fun e => he (by rw [eqL]; omega)
    rw [hcl, Qmk (by omega), cT, Wz hjl, bS, Wz hi, bS, Qmt.2 he', cF, B1 (n := j) (by omega), t3]
theorem rof_l1 (K : Nat) (hK : 10000 ≤ K) {a : Qc} (h : RQ a) (g : Q5) (l : List Nat) (hl : l.length = a.States.length) : ∀ (i k : Nat) (T : List Int), i < k → i ≤ l.length → T.length = l.length → (∀ m, m < l.length → l.getD m 0 ∈ l.drop i → T.getD m (-1) = ((i + (l.drop i).idxOf (l.getD m 0) : Nat) : Int)) →
  Xm K k (Z0 l) ((i : Int) - 1) a.Split.Of a.Split.Many a.Counts a.States g T = (Vf K a (Qb2 l)).bind fun v => Ud K v.Split.Of v.Split.Many v.Counts v.States g (Qb2 l) := by
 have hn := h.n2
 intro i
 induction i with
 | zero =>
  intro k T hk hi hT hm
  obtain ⟨k, rfl⟩ : ∃ q, k = q + 1 := ⟨k - 1, by omega⟩
  have e : T = Qb2 l := by
   refine Qn7 (by rw [Qb2, Qmf, hT]) fun m h1 h2 => ?_
   have h3 := hm m (by omega) (by rw [Qmu, Zb (by omega)]; exact Qmg _)
   have h4 := Qlp (l := l) (i := m) (by omega)
   rw [Zb h1, Qmu, Zb (by omega), Qnb] at h3
   rw [Zb h2] at h4
   rw [h3, h4]
  rw [Xm]
  dsimp only
  rw [Qme (by omega), cF, e]
 | succ i ih =>
  intro k T hk hi hT hm
  obtain ⟨k, rfl⟩ : ∃ q, k = q + 1 := ⟨k - 1, by omega⟩
  have hil : i < l.length := by omega
  obtain ⟨T', t1, t2, t3⟩ := rof_l6 K (Xm K k) l (by omega) i hil a.Split.Of a.Split.Many a.Counts a.States g l.length K 0 T rfl (by omega) (Qmm _) hT
  rw [Qmr] at t3
  rw [Xm]
  dsimp only
  rw [show ((i + 1 : Nat) : Int) - 1 = (i : Int) by omega, Qmk (by omega), cT, t3]
  refine ih k T' (by omega) (by omega) t1 fun m hml hmem => ?_
  rw [t2 m]
  rw [Qmi hil] at hmem ⊢
  by_cases he : eqL l m i
  ·have he' : l.getD m 0 = l[i] := by rw [eqL, Zb hil] at he; exact he
   rw [if_pos ⟨Qmm _, hml, he⟩, List.idxOf_cons, Qn0.2 he'.symm]
   rfl
  ·have he' : l[i] ≠ l.getD m 0 := fun e => he (by rw [eqL, Zb hil]; exact e.symm)
   rw [if_neg fun hc => he hc.2.2, List.idxOf_cons, Qmt.2 he', cF]
   rcases Qnx.1 hmem with hc | hc
   ·exact absurd hc.symm he'
   ·rw [hm m hml hc]
    omega
theorem rof_l0 (K : Nat) (l : List Bool) (hl : l.length ≤ 256) (a : Qc) (g : Q5) : ∀ (q k i : Nat) (X : List Int), l.length - i = q → q < k → X.length = i → i ≤ l.length →
  Uc K k l (i : Int) a g (X ++ List.replicate (l.length - i) 0) = (Vf K a (X ++ (Sc l).drop i)).bind fun v => bif ((v.Counts.length : Int) == (0 : Int)) then (Yv K v).bind fun w => Xm K K w (IntKind.i64.wrap ((w.length : Int) - 1)) v.Split.Of v.Split.Many v.Counts v.States g (X ++ (Sc l).drop i) else Ud K v.Split.Of v.Split.Many v.Counts v.States g (X ++ (Sc l).drop i) := by
 intro q
 induction q with
 | zero =>
  intro k i X hq hk hX hi
  obtain ⟨k, rfl⟩ : ∃ q, k = q + 1 := ⟨k - 1, by omega⟩
  have e0 : l.length - i = 0 := by omega
  rw [Uc]
  dsimp only
  rw [e0, List.replicate_zero, Qm1, Qme (by omega), cF, Qmn (by rw [Sc, Qmf, Qm9]; omega), Qm1]
 | succ q ih =>
  intro k i X hq hk hX hi
  obtain ⟨k, rfl⟩ : ∃ q, k = q + 1 := ⟨k - 1, by omega⟩
  have hil : i < l.length := by omega
  have e1 : l.length - i = (l.length - (i + 1)) + 1 := by omega
  have hbl : i < (Sc l).length := by rw [Sc, Qmf, Qm9]; exact hil
  have hd := Qmi hbl
  have hb : (Sc l)[i] = if l[i] = true then (i : Int) else -1 := by
   have := Qlu (l := l) (i := i)
   rw [Zb hbl, Zb hil] at this
   exact this
  have h3 := fun y => ih k (i + 1) (X ++ [y]) (by omega) (by omega) (by rw [Qmc, Qmh]; omega) (by omega)
  simp only [Qmd, Qno] at h3
  have hset : ∀ y z : Int, (X ++ y :: List.replicate (l.length - (i + 1)) 0).set i z = X ++ z :: List.replicate (l.length - (i + 1)) 0 := fun y z => by
   have := Qbh X (List.replicate (l.length - (i + 1)) 0) y z
   rw [hX] at this; exact this
  have hget : ∀ y : Int, Yb (X ++ y :: List.replicate (l.length - (i + 1)) 0) (i : Int) = some y := fun y => by
   have := Qb4 X (List.replicate (l.length - (i + 1)) 0) y
   rw [hX] at this; exact this
  rw [Uc]
  dsimp only
  rw [e1, Qnt, Qmk (by rw [Qmc, Qmw]; omega), cT, hget, bS, Q2 hil, bS, Qml, hset, hget, hset, B1 (n := i) (by omega), hd, hb]
  cases hv : l[i] with
  | true => rw [Qm5, cF, if_pos rfl, h3]
  | false => rw [Qm4, cT, bS, if_neg (by decide), h3]
theorem rof_ok {a : Qc} (h : Sg a) {K : Nat} (hK : 10000000 ≤ K) {l : List Bool} (hl : Qge a.States l) : H1 K a = some (trimA a l, 0) := by
 obtain ⟨l', h1, h2⟩ := rlive_ok h (K := K) (by omega)
 have e : l' = l := h2.uniq hl
 subst e
 have hn := h.1.n2
 have hB := h.withS (h.1.bury l')
 have hll := hl.len
 have hbt : (Sc l').length = a.States.length := by rw [Sc, Qmf, Qm9]; exact hll
 have h0 := rof_l0 K l' (by omega) a (Q5.mk fun _ => 0) l'.length K 0 [] rfl (by omega) rfl (Qmm _)
 rw [Qmr, Qmu, Qmq, Qmq, Qnj, moved_of (by omega) h.1 hbt, bS, hll] at h0
 rw [H1, h.ref (by omega), bS, Qm5, cF, h1, bS, Z5 (by omega), Z5 (Zn.2 ⟨by simp only [maxLen]; omega, by omega⟩), Qml, h0, trimA, trimL]
 by_cases hc : a.Counts.length = 0
 ·have hbl := (Qb6 hB.1.toOk).len
  have hbn : (Lc (Ts a.States l')).length = a.States.length := by
   rw [show Lc (Ts a.States l') = Lc (Go.Rv.withS a (Ts a.States l')).States from rfl, hbl]
   show (Ts a.States l').length = _
   rw [Ts, F4]
  have hcl : (Z0 (Lc (Ts a.States l'))).length = a.States.length := by rw [Z0, Qmf]; exact hbn
  have hrb := rblocks_ok (K := K) (by omega) hB
  have hl1 := rof_l1 K (by omega) hB.1 (Q5.mk fun _ => 0) (Lc (Ts a.States l')) (by rw [hbn]; show _ = (Ts a.States l').length; rw [Ts, F4]) (Lc (Ts a.States l')).length K (Sc l') (by omega) (Qms _) (by rw [hbt, hbn]) (fun m _ hm => by rw [List.drop_length] at hm; cases hm)
  have hjt : (Qb2 (Lc (Ts a.States l'))).length = (Go.Rv.withS a (Ts a.States l')).States.length := by
   rw [Qb2, Qmf]; exact hbl
  rw [moved_of (by omega) hB.1 hjt, bS] at hl1
  have hj2 := rof_j2 K (by omega) hB.1.join (Q5.mk fun _ => 0) (Qb2 (Lc (Ts a.States l'))) (by rw [hjt]; show _ = (joinL _).length; rw [joinL, F4])
  have e1 : IntKind.i64.wrap ((a.States.length : Int) - 1) = ((Lc (Ts a.States l')).length : Int) - 1 := by rw [w64 (by omega) (by omega), hbn]
  show (bif ((a.Counts.length : Int) == (0 : Int)) then _ else _) = _
  rw [Qn0.2 (show (a.Counts.length : Int) = 0 by omega), cT]
  rw [show Yv K (Go.Rv.withS a (N8 (Sc l') a.States)) = some (Z0 (Lc (Ts a.States l'))) from hrb, bS, hcl, e1]
  refine Eq.trans hl1 (Eq.trans hj2 ?_)
  rw [hc, Qnn, if_pos rfl]
  rfl
 ·show (bif ((a.Counts.length : Int) == (0 : Int)) then _ else _) = _
  rw [Qmt.2 (show (a.Counts.length : Int) ≠ 0 by omega), cF]
  refine Eq.trans (rof_j2 K (by omega) hB.1 (Q5.mk fun _ => 0) (Sc l') (by rw [hbt]; show _ = (Ts _ _).length; rw [Ts, F4])) ?_
  rw [Qmt.2 hc, if_neg (by decide)]
  rfl
theorem rof_bad {a : Qc} {K : Nat} (h : Yj K a = some false) : H1 K a = some (noA, 1) := by
 rw [H1, h, bS, Qm4, cT]; rfl
end Go.Rv

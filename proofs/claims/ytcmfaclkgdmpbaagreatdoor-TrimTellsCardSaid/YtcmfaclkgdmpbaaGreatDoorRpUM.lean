/- Trimming, plainly: what is trimmed is right. -/
/- Trimming, plainly: bury, and keep. -/
/- Trimming, plainly: what tells states apart, as a text. -/
/- Trimming, plainly: states are dealt to classes. -/
import Derived.Test.YtcmfaclkgdmpbaaGreatDoorRpUI
namespace Go.Rv
def withS (a : Qc) (S : List Qa) : Qc := ⟨a.Split, a.Counts, S⟩
def sendOk (S T : List Qa) (to : List Int) : Prop := ∀ i, 1 ≤ i → i < S.length → to.getD i (-1) = -1 ∨ (1 ≤ to.getD i (-1) ∧ to.getD i (-1) < T.length ∧ (stA T (to.getD i (-1)).toNat).R = (stA S i).R)
theorem sendM_ok {S T : List Qa} {to : List Int} (h : sendOk S T to) {R : List Int} {m : Qd} (hm : MvQ S R m) : MvQ T R (Qji to m) := by
 rw [Qji]
 rcases hm with ⟨h1, h2⟩ | ⟨h1, h2, h3, h4⟩
 ·rw [if_neg (by omega)]; exact .inl ⟨rfl, rfl⟩
 ·rcases h m.To.toNat (by omega) (by omega) with g | ⟨g1, g2, g3⟩
  ·rw [if_neg (by omega)]; exact .inl ⟨rfl, rfl⟩
  ·rw [if_pos ⟨by omega, by omega⟩]
   refine .inr ⟨g1, g2, ?_, ?_⟩
   ·dsimp only; rw [g3]; exact h3
   ·dsimp only; rw [g3]; exact h4
theorem sendSt_ok {n : Nat} {many : Int} {S T : List Qa} {to : List Int} (h : sendOk S T to) {s : Qa} (hs : StQ n many S s) : StQ n many T (Qem to s) := by
 obtain ⟨h1, h2, h3, h4, h5, h6, h7, h8⟩ := hs
 refine ⟨h1, h2, ?_, h4, h5, h6, fun r hr => ?_, fun r hr m hm => ?_⟩
 ·rw [Qem]; dsimp only; rw [Qmf]; exact h3
 ·obtain ⟨q, hq, rfl⟩ := Qnd.1 hr
  rw [Qmf]; exact h7 q hq
 ·obtain ⟨q, hq, rfl⟩ := Qnd.1 hr
  obtain ⟨m', hm', rfl⟩ := Qnd.1 hm
  exact sendM_ok h (h8 q hq m' hm')
theorem RQ.send {a : Qc} (h : RQ a) {to : List Int} (hs : sendOk a.States (N8 to a.States) to) : RQ (withS a (N8 to a.States)) := by
 refine ⟨h.split, h.cl, h.cn, ?_, ?_, ?_, ?_, fun s hs' => ?_⟩
 ·show 1 ≤ (N8 to a.States).length
  rw [F4]; exact h.n1
 ·show (N8 to a.States).length ≤ 256
  rw [F4]; exact h.n2
 ·show (stA (N8 to a.States) 0).L = []
  rw [Qjh]; exact h.l0
 ·show (stA (N8 to a.States) 0).R = []
  rw [Qjh]; exact h.r0
 ·obtain ⟨q, hq, rfl⟩ := Qnd.1 hs'
  exact sendSt_ok hs (h.st q hq)
theorem RQ.bury {a : Qc} (h : RQ a) (l : List Bool) : RQ (withS a (Ts a.States l)) :=
 h.send fun i h1 h2 => by
  rw [Qlu]
  split
  ·refine .inr ⟨by omega, by rw [F4]; omega, ?_⟩
   rw [Qjh, Qml]; rfl
  ·exact .inl rfl
theorem idx_first {l : List Nat} {i : Nat} (h : i < l.length) : l.idxOf l[i] ≤ i ∧ l.idxOf l[i] < l.length ∧ eqL l (l.idxOf l[i]) i := by
 have h1 : l.idxOf l[i] < l.length := Qn1.2 (Qmg h)
 refine ⟨?_, h1, ?_⟩
 ·refine Decidable.byContradiction fun hc => ?_
  have := List.not_of_lt_findIdx (p := (· == l[i])) (xs := l) (i := i) (by rw [List.idxOf] at hc; omega)
  simp at this
 ·rw [eqL, Zb h1, Zb h, Qoe h1]
theorem RQ.join {a : Qc} (h : RQ a) : RQ (withS a (joinL a.States)) :=
 h.send fun i h1 h2 => by
  have hb := Qb6 h.toOk
  have hi : i < (Lc a.States).length := by rw [hb.len]; exact h2
  obtain ⟨g1, g2, g3⟩ := idx_first hi
  rw [Qlp hi]
  have hs := hb.sim _ _ (by rw [← hb.len]; exact g2) h2 g3
  rw [Qml, F4, Qjh]
  rcases hs with hs | ⟨hs1, hs2, hs3, _⟩
  ·omega
  ·refine .inr ⟨by omega, by rw [hb.len] at g2; omega, ?_⟩
   exact hs3
theorem order_zero {S : List Qa} (hT : toOk S) (h0 : 0 < S.length) : 0 < (Cm S).length ∧ (Cm S).getD 0 0 = 0 ∧ (Cm S).idxOf 0 = 0 := by
 obtain ⟨t, ht⟩ := (Qaz hT h0).pre
 rw [ht]
 exact ⟨by simp, by simp, by simp [List.idxOf, List.findIdx_cons]⟩
theorem Qlj {S : List Qa} (hT : toOk S) (h0 : 0 < S.length) : (Cm S).length ≤ S.length := by
 have ho := Qaz hT h0
 have := Sv (Cm S) (List.range S.length) ho.nodup fun x hx => Qny.2 (ho.lt x hx)
 rw [Qm9] at this
 exact this
theorem keep_st {S : List Qa} {i : Nat} (h : i < (Cm S).length) : stA (Qjs S) i = Qem (Ow S.length (Cm S)) (stA S ((Cm S)[i])) := by
 rw [Wq (by rw [Qk4]; exact h)]
 simp only [Qjs, Qnm]
theorem RQ.keep {a : Qc} (h : RQ a) : RQ (withS a (Qjs a.States)) := by
 have h0 := h.n1
 have ho := Qaz h.toOk (by omega)
 obtain ⟨z1, z2, z3⟩ := order_zero h.toOk (by omega)
 have z4 : (Cm a.States)[0] = 0 := by rw [Zb z1] at z2; exact z2
 have hs : sendOk a.States (Qjs a.States) (Ow a.States.length (Cm a.States)) := fun i h1 h2 => by
  rw [Qi0 h2]
  split
  ·next hm =>
   have g := Qn1.2 hm
   have gg := Qoe g
   refine .inr ⟨?_, by rw [Qk4]; omega, ?_⟩
   ·have : (Cm a.States).idxOf i ≠ 0 := fun e => by
     simp only [e] at gg
     rw [z4] at gg; omega
    omega
   ·rw [Qml, keep_st g, gg]; rfl
  ·exact .inl rfl
 refine ⟨h.split, h.cl, h.cn, ?_, ?_, ?_, ?_, fun s hs' => ?_⟩
 ·show 1 ≤ (Qjs a.States).length
  rw [Qk4]; exact z1
 ·show (Qjs a.States).length ≤ 256
  have := Qlj h.toOk (by omega)
  have := h.n2
  rw [Qk4]; omega
 ·show (stA (Qjs a.States) 0).L = []
  rw [keep_st z1, z4]; exact h.l0
 ·show (stA (Qjs a.States) 0).R = []
  rw [keep_st z1, z4]; exact h.r0
 ·obtain ⟨q, hq, rfl⟩ := Qnd.1 hs'
  have hql := ho.lt q hq
  exact sendSt_ok hs (by rw [Wq hql]; exact h.st _ (Qmg hql))
def trimA (a : Qc) (l : List Bool) : Qc := withS a (trimL a.States l (a.Counts.length == 0))
theorem RQ.trim {a : Qc} (h : RQ a) (l : List Bool) : RQ (trimA a l) := by
 rw [trimA, trimL]
 split
 ·exact (h.bury l).join.keep
 ·exact (h.bury l).keep
end Go.Rv
namespace Go.Rv
theorem bind_id {α : Type} (o : Option α) : (o.bind fun v => some v) = o := by cases o <;> rfl
theorem bury_l0 (K : Nat) (t : Qe) (l : List Bool) (hl : l.length ≤ 256) : ∀ (q k i : Nat) (X : List Int), l.length - i = q → q < k → X.length = i → i ≤ l.length →
  Xo K k l (l.length : Int) (i : Int) t (X ++ List.replicate (l.length - i) 0) = V9 K t (X ++ (Sc l).drop i) := by
 intro q
 induction q with
 | zero =>
  intro k i X hq hk hX hi
  obtain ⟨k, rfl⟩ : ∃ q, k = q + 1 := ⟨k - 1, by omega⟩
  have e0 : l.length - i = 0 := by omega
  rw [Xo]
  dsimp only
  rw [Qme (by omega), cF, e0, Qmn (by rw [Sc, Qmf, Qm9]; omega), bind_id]
  rfl
 | succ q ih =>
  intro k i X hq hk hX hi
  obtain ⟨k, rfl⟩ : ∃ q, k = q + 1 := ⟨k - 1, by omega⟩
  have hil : i < l.length := by omega
  have hlt : (i : Int) < (l.length : Int) := by omega
  have e1 : l.length - i = (l.length - (i + 1)) + 1 := by omega
  have hbl : i < (Sc l).length := by rw [Sc, Qmf, Qm9]; exact hil
  have hd := Qmi hbl
  have hb : (Sc l)[i] = if l[i] = true then (i : Int) else -1 := by
   have := Qlu (l := l) (i := i)
   rw [Zb hbl, Zb hil] at this
   exact this
  have h3 := fun y => ih k (i + 1) (X ++ [y]) (by omega) (by omega) (by rw [Qmc, Qmh]; omega) (by omega)
  simp only [Qmd, Qno] at h3
  have hset : ∀ y z : Int, (X ++ y :: List.replicate (l.length - (i + 1)) 0).set i z = X ++ z :: List.replicate (l.length - (i + 1)) 0 := fun y z => by
   have := Qbh X (List.replicate (l.length - (i + 1)) 0) y z
   rw [hX] at this; exact this
  have hget : ∀ y : Int, Yb (X ++ y :: List.replicate (l.length - (i + 1)) 0) (i : Int) = some y := fun y => by
   have := Qb4 X (List.replicate (l.length - (i + 1)) 0) y
   rw [hX] at this; exact this
  rw [Xo]
  dsimp only
  rw [Qmk hlt, cT, Q2 hil, bS, e1, Qnt, hget, bS, Qml, hset, hget, hset, B1 (n := i) (by omega), hd, hb]
  cases hv : l[i] with
  | true => rw [Qm5, cF, if_pos rfl, h3]
  | false => rw [Qm4, cT, bS, if_neg (by decide), h3]
theorem send_of {K : Nat} (hK : 1000 ≤ K) {a : Qc} (h : RQ a) {to : List Int} (ht : to.length = a.States.length) : V9 K ⟨a⟩ to = some ⟨withS a (N8 to a.States)⟩ :=
 send_ok K hK a to h.n2 (fun s hs => h.small hs) fun s hs r hr m hm => by
  obtain ⟨i, hi, rfl⟩ := Qnf hs
  have := h.toOk i hi m (by rw [mvs, Wq hi]; exact Qn8.2 ⟨r, hr, hm⟩)
  omega
theorem send1_of {K : Nat} (hK : 1000 ≤ K) {a : Qc} (h : RQ a) {to : List Int} (ht : to.length = a.States.length) : Vl K ⟨a⟩ to = some ⟨withS a (N8 to a.States)⟩ :=
 send1_ok K hK a to h.n2 (fun s hs => h.small hs) fun s hs r hr m hm => by
  obtain ⟨i, hi, rfl⟩ := Qnf hs
  have := h.toOk i hi m (by rw [mvs, Wq hi]; exact Qn8.2 ⟨r, hr, hm⟩)
  omega
theorem bury_ok' {a : Qc} (h : Sg a) {K : Nat} (hK : 10000000 ≤ K) : ∃ l, Qge a.States l ∧ Gp K ⟨a⟩ = some ⟨withS a (Ts a.States l)⟩ := by
 obtain ⟨l, h1, h2⟩ := live_ok h hK
 have hn := h.1.n2
 have hl := h2.len
 have h3 := bury_l0 K ⟨a⟩ l (by omega) l.length K 0 [] rfl (by omega) rfl (Qmm _)
 rw [Qmr, Qmu, Qmq, Qmq, Qnj, send_of (by omega) h.1 (by rw [Sc, Qmf, Qm9]; exact hl)] at h3
 refine ⟨l, h2, ?_⟩
 rw [Gp]
 dsimp only
 rw [Z5 (by omega), Z5 (Zn.2 ⟨by simp only [maxLen]; omega, by omega⟩), h1, bS, Qml, ← hl]
 exact h3
/- Keep. -/
def Z0 (o : List Nat) : List Int := o.map fun n : Nat => (n : Int)
theorem Kp (n : Nat) (o : List Nat) : (Ow n o).length = n := by rw [Ow, Qmf, Qm9]
theorem Qjr {n x : Nat} {o : List Nat} (hx : x < n) (h : x ∉ o) : (Ow n o).set x (o.length : Int) = Ow n (o ++ [x]) := by
 have _ := hx
 refine Qn7 (by rw [Qne, Kp, Kp]) fun i h1 h2 => ?_
 rw [Kp] at h2
 have e := Qi0 (n := n) (o := o ++ [x]) h2
 rw [Zb (by rw [Kp]; exact h2)] at e
 rw [e]
 by_cases hi : x = i
 ·subst hi
  rw [Qoa, if_pos (Qmj.2 (.inr (Qmp.2 rfl))), Qpb, if_neg h]
  simp
 ·have e2 := Qi0 (n := n) (o := o) h2
  rw [Zb (by rw [Kp]; exact h2)] at e2
  rw [List.getElem_set_ne hi, e2]
  by_cases hm : i ∈ o
  ·rw [if_pos hm, if_pos (Qmj.2 (.inl hm)), Qpb, if_pos hm]
  ·rw [if_neg hm, if_neg (fun hc => by
    rcases Qmj.1 hc with hc | hc
    ·exact hm hc
    ·exact hi (Qmp.1 hc).symm)]
theorem keep_l1 (K : Nat) (go : Int → Qe → (List Int) → (List Int) → Option Qe) (x4 : Int) (ms : List Qd) (t : Qe) (n : Nat) (hm : ∀ m ∈ ms, m.To < n) (hl : ms.length ≤ 100000) : ∀ (q k j : Nat) (o : List Nat), ms.length - j = q → q < k → o.length ≤ 1000 + j →
  Y6 K go k x4 ms (ms.length : Int) (j : Int) t (Ow n o) (Z0 o) = go (IntKind.i64.wrap (x4 + 1)) t (Ow n ((ms.drop j).foldl Qff o)) (Z0 ((ms.drop j).foldl Qff o)) := by
 intro q
 induction q with
 | zero =>
  intro k j o hq hk ho
  obtain ⟨k, rfl⟩ : ∃ q, k = q + 1 := ⟨k - 1, by omega⟩
  rw [Y6]
  dsimp only
  rw [Qme (by omega), cF, Qmn (by omega)]
  rfl
 | succ q ih =>
  intro k j o hq hk ho
  obtain ⟨k, rfl⟩ : ∃ q, k = q + 1 := ⟨k - 1, by omega⟩
  have hj : j < ms.length := by omega
  have hto := hm _ (Qmg hj)
  have hw := B1 (n := j) (by omega)
  have hlt : (j : Int) < (ms.length : Int) := by omega
  have hcl : (Z0 o).length = o.length := by rw [Z0, Qmf]
  rw [Y6]
  dsimp only
  rw [Qmk hlt, cT, Q2 hj, bS, Qmi hj, Qnp, hw]
  generalize ms[j] = m at *
  by_cases h0 : m.To ≥ 0
  ·obtain ⟨x, hx⟩ : ∃ x : Nat, m.To = (x : Int) := ⟨m.To.toNat, by omega⟩
   have hxn : x < n := by omega
   have hg : Yb (Ow n o) m.To = some (if x ∈ o then (o.idxOf x : Int) else -1) := by
    rw [hx, Q2 (by rw [Kp]; exact hxn), ← Zb (d := -1) (by rw [Kp]; exact hxn), Qi0 hxn]
   rw [Qmk h0, cT, hg, bS]
   by_cases hmem : x ∈ o
   ·have ha : Qff o m = o := by rw [Qff, if_neg (by rw [hx, Qml]; exact fun h => h.2 hmem)]
    rw [if_pos hmem, Qme (by omega), cF, ha]
    exact ih k (j + 1) o (by omega) (by omega) (by omega)
   ·have ha : Qff o m = o ++ [x] := by rw [Qff, hx, Qml, if_pos ⟨by omega, hmem⟩]
    rw [if_neg hmem, Qmk (by omega), cT, Z5 (Zn.2 ⟨by simp only [maxLen, Qmh]; omega, by simp only [Qmh]; omega⟩), hcl, hx, Qml, Qjr hxn hmem, ha]
    have := ih k (j + 1) (o ++ [x]) (by omega) (by omega) (by rw [Qmc, Qmh]; omega)
    rw [← this]
    simp [Z0]
  ·have ha : Qff o m = o := by rw [Qff, if_neg (fun h => h0 h.1)]
   rw [Qme h0, cF, ha]
   exact ih k (j + 1) o (by omega) (by omega) (by omega)
theorem keep_l2 (K : Nat) (f : Q5) (many : Int) (cs : List Ye) (S : List Qa) (r : List Nat) (hr : ∀ x ∈ r, x < S.length) (hrl : r.length ≤ 256) : ∀ (q k i : Nat) (X : List Qa), r.length - i = q → q < k → X.length = i → i ≤ r.length →
  Vm K k (r.length : Int) (i : Int) f many cs S X (Z0 r) = some ⟨⟨⟨f, many⟩, cs, X ++ (r.drop i).map (stA S)⟩⟩ := by
 intro q
 induction q with
 | zero =>
  intro k i X hq hk hX hi
  obtain ⟨k, rfl⟩ : ∃ q, k = q + 1 := ⟨k - 1, by omega⟩
  rw [Vm]
  dsimp only
  rw [Qme (by omega), cF, Qmn (by omega), Qob, Qm1]
 | succ q ih =>
  intro k i X hq hk hX hi
  obtain ⟨k, rfl⟩ : ∃ q, k = q + 1 := ⟨k - 1, by omega⟩
  have hil : i < r.length := by omega
  have hlt : (i : Int) < (r.length : Int) := by omega
  have hx := hr _ (Qmg hil)
  have hg : Yb (Z0 r) (i : Int) = some (r[i] : Int) := by
   rw [Q2 (by rw [Z0, Qmf]; exact hil)]
   simp [Z0]
  rw [Vm]
  dsimp only
  rw [Qmk hlt, cT, hg, bS, Q2 hx, bS, Z5 (Zn.2 ⟨by simp only [maxLen, Qmh]; omega, by simp only [Qmh]; omega⟩), B1 (n := i) (by omega), ih k (i + 1) _ (by omega) (by omega) (by rw [Qmc, Qmh]; omega) (by omega), Qmi hil, Qmv, Wq hx, Qmd]
  rfl
theorem keep_l0 (K : Nat) (hK : 10000 ≤ K) {a : Qc} (h : RQ a) : ∀ (k' k i : Nat) (o : List Nat), k' ≤ k → o.Nodup → (∀ x ∈ o, x < a.States.length) → i ≤ o.length → a.States.length < k' + i → (bfs a.States k' i o).length ≤ 256 → (∀ x ∈ bfs a.States k' i o, x < a.States.length) →
  Xn K k (i : Int) ⟨a⟩ (Ow a.States.length o) (Z0 o) = some ⟨withS a ((bfs a.States k' i o).map fun q => Qem (Ow a.States.length (bfs a.States k' i o)) (stA a.States q))⟩ := by
 intro k'
 induction k' with
 | zero =>
  intro k i o _ h1 h2 h3 h4
  have := Sv o (List.range a.States.length) h1 fun x hx => Qny.2 (h2 x hx)
  rw [Qm9] at this
  omega
 | succ k' ih =>
  intro k i o hk h1 h2 h3 h4 h5 h6
  obtain ⟨k, rfl⟩ : ∃ q, k = q + 1 := ⟨k - 1, by omega⟩
  have hn := h.n2
  have hol := Sv o (List.range a.States.length) h1 fun x hx => Qny.2 (h2 x hx)
  rw [Qm9] at hol
  have hcl : (Z0 o).length = o.length := by rw [Z0, Qmf]
  rw [Xn]
  rw [bfs] at h5 h6 ⊢
  dsimp only
  rw [hcl]
  by_cases hi : i < o.length
  ·rw [if_pos hi] at h5 h6 ⊢
   have hx := h2 _ (Qmg hi)
   have hg : Yb (Z0 o) (i : Int) = some (o[i] : Int) := by
    rw [Q2 (by rw [hcl]; exact hi)]
    simp [Z0]
   have hsm := h.small (Qmg hx)
   have hfl := hsm.flat
   have hmv : mvs a.States o[i] = (a.States[o[i]]).Next.flatten := by rw [mvs, Wq hx]
   have hto : ∀ m ∈ mvs a.States o[i], m.To < a.States.length := h.toOk _ hx
   rw [Zb hi] at h5 h6 ⊢
   rw [Qmk (by omega), cT, hg, bS, Q2 hx, bS, moves_eq K _ (by have := hsm.next; omega) (by have := hsm.next; omega) (by omega), bS, ← hmv]
   have := keep_l1 K (Xn K k) (i : Int) (mvs a.States o[i]) ⟨a⟩ a.States.length hto (by rw [hmv]; omega) (mvs a.States o[i]).length K 0 o rfl (by rw [hmv]; omega) (by omega)
   rw [Qmr, Qmu, B1 (n := i) (by omega)] at this
   rw [this]
   refine ih k (i + 1) _ (by omega) (Qh1 _ _ h1) (fun x hx' => ?_) ?_ (by omega) h5 h6
   ·rcases (Qls _ _ _).1 hx' with h' | ⟨m, hm, h0, rfl⟩
    ·exact h2 x h'
    ·have := hto m hm; omega
   ·obtain ⟨t, ht⟩ := Qlr (mvs a.States o[i]) o
    rw [ht, Qmc]; omega
  ·rw [if_neg hi] at h5 h6 ⊢
   rw [Qme (by omega), cF, send_of (by omega) h (Kp _ _), bS]
   dsimp only [withS]
   have := keep_l2 K a.Split.Of a.Split.Many a.Counts (N8 (Ow a.States.length o) a.States) o (fun x hx => by rw [F4]; exact h2 x hx) (by omega) o.length K 0 [] rfl (by omega) rfl (Qmm _)
   rw [Qmr, Qmu, Qmq] at this
   rw [this]
   congr 4
   exact funext fun x => Qjh _ _ _
theorem repeat_l1 (K : Nat) (n : Nat) (hn : n ≤ 256) : ∀ (q k i : Nat), n - i = q → q < k → 1 ≤ i → i ≤ n → Uv K k (i : Int) (List.replicate i (-1 : Int) ++ List.replicate (n - i) 0) = some (List.replicate n (-1)) := by
 intro q
 induction q using Nat.strongRecOn with
 | ind q ih =>
  intro k i hq hk h1 h2
  obtain ⟨k, rfl⟩ : ∃ q, k = q + 1 := ⟨k - 1, by omega⟩
  have hl : (List.replicate i (-1 : Int) ++ List.replicate (n - i) 0).length = n := by simp; omega
  rw [Uv]
  dsimp only
  rw [hl, Qml]
  by_cases hi : i < n
  ·have e : IntKind.i64.wrap ((i : Int) + ((min i (n - i) : Nat) : Int)) = ((i + min i (n - i) : Nat) : Int) := by rw [w64 (by omega) (by omega)]; omega
   rw [Qmk (by omega), cT, Z5 ⟨by omega, by omega⟩, Z5 ⟨by omega, by omega⟩, e]
   have hih := ih (n - (i + min i (n - i))) (by omega) k (i + min i (n - i)) rfl (by omega) (by omega) (by omega)
   rw [← hih]
   congr 1
   have e1 : (List.replicate i (-1 : Int) ++ List.replicate (n - i) 0).take i = List.replicate i (-1) := by
    rw [Qns (by simp), Qnc (by simp)]
   have e2 : (List.replicate i (-1 : Int) ++ List.replicate (n - i) 0).take (min i (n - i)) = List.replicate (min i (n - i)) (-1) := by
    rw [Qns (by simp; omega), List.take_replicate]
    congr 1; omega
   have e3 : (List.replicate i (-1 : Int) ++ List.replicate (n - i) 0).drop (i + min i (n - i)) = List.replicate (n - (i + min i (n - i))) 0 := by
    rw [List.drop_append, List.drop_of_length_le (by simp), Qmq, List.drop_replicate]
    congr 1; simp; omega
   rw [e1, e2, e3, List.replicate_append_replicate]
  ·have : n = i := by omega
   subst this
   rw [Qme (by omega), cF]
   simp
theorem mul_ok : ∀ n : _root_.Fin 257, Qi4 0 (IntKind.u64.wrap 1) (IntKind.u64.wrap ((n.val : Nat) : Int)) = some (0, ((n.val : Nat) : Int)) := by decide +kernel
theorem repeat_ok (K : Nat) (n : Nat) (h1 : 1 ≤ n) (hn : n ≤ 256) (hK : 1000 ≤ K) : Gq K [(-1 : Int)] (n : Int) = some (List.replicate n (-1)) := by
 have hm : Qi4 K (IntKind.u64.wrap (([(-1 : Int)].length : Nat) : Int)) (IntKind.u64.wrap (n : Int)) = some (0, (n : Int)) := mul_ok ⟨n, by omega⟩
 rw [Gq, Qme (by omega), cF, hm, bS]
 dsimp only
 rw [Qme (by omega), cF, Qme (by omega), cF, w64 (by omega) (by omega), Z5 (by omega), Z5 (Zn.2 ⟨by simp only [maxLen]; omega, by omega⟩), Z5 ⟨by simp, by simp; omega⟩, Qml]
 have := repeat_l1 K n hn (n - 1) K 1 rfl (by omega) (by omega) h1
 rw [← this]
 congr 1
 simp
theorem keep_ok {K : Nat} (hK : 10000 ≤ K) {a : Qc} (h : RQ a) : Gm K ⟨a⟩ = some ⟨withS a (Qjs a.States)⟩ := by
 have h0 := h.n1
 have hn := h.n2
 have ho := Qaz h.toOk (by omega)
 have hol := Qlj h.toOk (by omega)
 have := keep_l0 K hK h (a.States.length + 1) K 0 [0] (by omega) (Qoo.2 ⟨Qor, Qox⟩) (fun x hx => by rw [Qmp.1 hx]; omega) (Qmm _) (by omega) (by rw [Cm] at hol; omega) ho.lt
 rw [Gm]
 dsimp only
 rw [repeat_ok K _ h0 hn (by omega), bS]
 have e : Yb (List.replicate a.States.length (-1 : Int)) 0 = some (-1) := by
  have := Q2 (l := List.replicate a.States.length (-1 : Int)) (i := 0) (by rw [Qm2]; omega)
  rw [Qn5] at this
  exact this
 have e2 : (List.replicate a.States.length (-1 : Int)).set (Int.toNat 0) 0 = Ow a.States.length [0] := by
  have e3 : List.replicate a.States.length (-1 : Int) = Ow a.States.length [] := by
   refine Qn7 (by rw [Kp, Qm2]) fun i h1 h2 => ?_
   simp [Ow]
  rw [e3]
  exact Qjr (o := []) (by omega) Qor
 rw [e, bS, e2]
 exact this
end Go.Rv
namespace Go.Rv
def itB (n : Int) : List Int := Dk (itoaS n)
def decD : List Int → Int → Int
 | [], v => v
 | c :: l, v => decD l (10 * v + (c - 48))
def decV : List Int → Int
 | [] => 0
 | c :: l => if c = 45 then -(decD l 0) else decD (c :: l) 0
def itOk (n : Int) : Bool := decV (itB n) == n && (itB n).all (fun c => c == 45 || (decide (48 ≤ c) && decide (c ≤ 57))) && decide (1 ≤ (itB n).length) && decide ((itB n).length ≤ 4)
theorem itOk_all : ∀ n : _root_.Fin 601, itOk ((n.val : Int) - 1) = true := by decide +kernel
structure Qib (n : Int) : Prop where
 val : decV (itB n) = n
 dig : ∀ c ∈ itB n, c = 45 ∨ (48 ≤ c ∧ c ≤ 57)
 pos : 1 ≤ (itB n).length
 len : (itB n).length ≤ 4
theorem Tq {n : Int} (h0 : -1 ≤ n) (h1 : n < 600) : Qib n := by
 have := itOk_all ⟨(n + 1).toNat, by omega⟩
 dsimp only at this
 rw [show (((n + 1).toNat : Nat) : Int) - 1 = n by omega, itOk] at this
 simp only [Qnh, Qn0, Qnw, Qng, Qo7] at this
 exact ⟨this.1.1.1, this.1.1.2, this.1.2, this.2⟩
def tok (n : Int) : List Int := itB n ++ [32]
def Qk1 (l : List Nat) (m : Qd) : List Int := if m.To < 0 then tok (-1) else tok (l.getD m.To.toNat 0 : Int) ++ (m.Ops ++ tok (m.Ops.length : Int))
def Qii (l : List Nat) (s : Qa) : List Int := tok (s.R.length : Int) ++ ((s.R.map tok).flatten ++ ((s.Rule.map tok).flatten ++ (s.Next.flatten.map (Qk1 l)).flatten))
theorem cut_eq {d : Int} : ∀ (A B u v : List Int), d ∉ A → d ∉ B → A ++ d :: u = B ++ d :: v → A = B ∧ u = v := by
 intro A
 induction A with
 | nil =>
  intro B u v _ hB h
  cases B with
  | nil => rw [Qmq, Qmq] at h; exact ⟨rfl, (List.cons.inj h).2⟩
  | cons b B => rw [Qmq, Qnu] at h; exact absurd (Qnx.2 (.inl (List.cons.inj h).1)) hB
 | cons a A ih =>
  intro B u v hA hB h
  cases B with
  | nil => rw [Qmq, Qnu] at h; exact absurd (Qnx.2 (.inl (List.cons.inj h).1.symm)) hA
  | cons b B =>
   rw [Qnu, Qnu] at h
   obtain ⟨h1, h2⟩ := List.cons.inj h
   obtain ⟨h3, h4⟩ := ih B u v (fun h => hA (Qm0 _ h)) (fun h => hB (Qm0 _ h)) h2
   exact ⟨by rw [h1, h3], h4⟩
theorem it_no {n : Int} (h : Qib n) {d : Int} (hd : d = 32 ∨ d = 58) : d ∉ itB n := fun hm => by
 have := h.dig d hm
 omega
theorem it_inj {a b : Int} (ha : Qib a) (hb : Qib b) (h : itB a = itB b) : a = b := by
 rw [← ha.val, ← hb.val, h]
theorem Qgr {a b : Int} (ha : Qib a) (hb : Qib b) {u v : List Int} (h : tok a ++ u = tok b ++ v) : a = b ∧ u = v := by
 rw [tok, tok, Qmd, Qmd] at h
 obtain ⟨h1, h2⟩ := cut_eq _ _ _ _ (it_no ha (.inl rfl)) (it_no hb (.inl rfl)) h
 exact ⟨it_inj ha hb h1, h2⟩
theorem toks_cut : ∀ (x y : List Int), x.length = y.length → (∀ n ∈ x, Qib n) → (∀ n ∈ y, Qib n) → ∀ (u v : List Int), (x.map tok).flatten ++ u = (y.map tok).flatten ++ v → x = y ∧ u = v := by
 intro x
 induction x with
 | nil =>
  intro y hl _ _ u v h
  cases y with
  | nil => exact ⟨rfl, h⟩
  | cons b y => simp at hl
 | cons a x ih =>
  intro y hl hx hy u v h
  cases y with
  | nil => simp at hl
  | cons b y =>
   simp only [Qmv, Qmz, Qmd] at h
   obtain ⟨h1, h2⟩ := Qgr (hx a Qm7) (hy b Qm7) h
   obtain ⟨h3, h4⟩ := ih y (by simpa using hl) (fun n hn => hx n (Qm0 _ hn)) (fun n hn => hy n (Qm0 _ hn)) u v h2
   exact ⟨by rw [h1, h3], h4⟩
theorem tok_head {n : Int} (h : Qib n) (u : List Int) : ∃ c t, tok n ++ u = c :: t ∧ 45 ≤ c := by
 have hp := h.pos
 have hd := h.dig
 rw [tok]
 cases hq : itB n with
 | nil => rw [hq] at hp; simp at hp
 | cons c t =>
  rw [hq] at hd
  refine ⟨c, t ++ ([32] ++ u), by simp, ?_⟩
  have := hd c Qm7
  omega
theorem ops_cut : ∀ (O P : List Int), (∀ c ∈ O, c ≤ 3) → (∀ c ∈ P, c ≤ 3) → ∀ (a b : Int), Qib a → Qib b → ∀ u v, O ++ (tok a ++ u) = P ++ (tok b ++ v) → O = P ∧ tok a ++ u = tok b ++ v := by
 intro O
 induction O with
 | nil =>
  intro P _ hP a b ha hb u v h
  cases P with
  | nil => exact ⟨rfl, h⟩
  | cons p P =>
   obtain ⟨c, t, e, hc⟩ := tok_head ha u
   rw [Qmq, e, Qnu] at h
   have h1 := hP p Qm7
   have h2 := (List.cons.inj h).1
   omega
 | cons o O ih =>
  intro P hO hP a b ha hb u v h
  cases P with
  | nil =>
   obtain ⟨c, t, e, hc⟩ := tok_head hb v
   rw [Qmq, e, Qnu] at h
   have h1 := hO o Qm7
   have h2 := (List.cons.inj h).1
   omega
  | cons p P =>
   rw [Qnu, Qnu] at h
   obtain ⟨h1, h2⟩ := List.cons.inj h
   obtain ⟨h3, h4⟩ := ih P (fun c hc => hO c (Qm0 _ hc)) (fun c hc => hP c (Qm0 _ hc)) a b ha hb u v h2
   exact ⟨by rw [h1, h3], h4⟩
def Qf2 (l : List Nat) (m : Qd) : Prop := (∀ c ∈ m.Ops, 1 ≤ c ∧ c ≤ 3) ∧ m.Ops.length ≤ 3 ∧ l.getD m.To.toNat 0 < 500
theorem mtok_cut {l : List Nat} {m n : Qd} (hm : Qf2 l m) (hn : Qf2 l n) {u v : List Int} (h : Qk1 l m ++ u = Qk1 l n ++ v) : Qfo l m = Qfo l n ∧ u = v := by
 obtain ⟨m1, m2, m3⟩ := hm
 obtain ⟨n1, n2, n3⟩ := hn
 have i0 : Qib (-1) := Tq (by omega) (by omega)
 have i1 : Qib (l.getD m.To.toNat 0 : Int) := Tq (by omega) (by omega)
 have i2 : Qib (l.getD n.To.toNat 0 : Int) := Tq (by omega) (by omega)
 rw [Qk1, Qk1] at h
 rw [Qfo, Qfo]
 by_cases h1 : m.To < 0 <;> by_cases h2 : n.To < 0
 ·rw [if_pos h1, if_pos h2] at h ⊢
  exact ⟨rfl, (Qgr i0 i0 h).2⟩
 ·rw [if_pos h1, if_neg h2, Qmd] at h
  have := (Qgr i0 i2 h).1
  omega
 ·rw [if_neg h1, if_pos h2, Qmd] at h
  have := (Qgr i1 i0 h).1
  omega
 ·rw [if_neg h1, if_neg h2] at h ⊢
  simp only [Qmd] at h
  obtain ⟨g1, g2⟩ := Qgr i1 i2 h
  have j1 : Qib (m.Ops.length : Int) := Tq (by omega) (by omega)
  have j2 : Qib (n.Ops.length : Int) := Tq (by omega) (by omega)
  obtain ⟨g3, g4⟩ := ops_cut _ _ (fun c hc => (m1 c hc).2) (fun c hc => (n1 c hc).2) _ _ j1 j2 _ _ g2
  exact ⟨by rw [g3, show l.getD m.To.toNat 0 = l.getD n.To.toNat 0 by omega], (Qgr j1 j2 g4).2⟩
theorem mtok_of {l : List Nat} {m n : Qd} (h : Qfo l m = Qfo l n) : Qk1 l m = Qk1 l n := by
 rw [Qfo, Qfo] at h
 rw [Qk1, Qk1]
 by_cases h1 : m.To < 0 <;> by_cases h2 : n.To < 0
 ·rw [if_pos h1, if_pos h2]
 ·rw [if_pos h1, if_neg h2] at h; cases h
 ·rw [if_neg h1, if_pos h2] at h; cases h
 ·rw [if_neg h1, if_neg h2] at h ⊢
  simp only [Qmy, Qmo] at h
  rw [h.1, h.2]
theorem mtoks_cut {l : List Nat} : ∀ (x y : List Qd), x.length = y.length → (∀ m ∈ x, Qf2 l m) → (∀ m ∈ y, Qf2 l m) → (x.map (Qk1 l)).flatten = (y.map (Qk1 l)).flatten → x.map (Qfo l) = y.map (Qfo l) := by
 intro x
 induction x with
 | nil =>
  intro y hl _ _ h
  cases y with
  | nil => rfl
  | cons b y => simp at hl
 | cons a x ih =>
  intro y hl hx hy h
  cases y with
  | nil => simp at hl
  | cons b y =>
   simp only [Qmv, Qmz] at h ⊢
   obtain ⟨h1, h2⟩ := mtok_cut (hx a Qm7) (hy b Qm7) h
   rw [h1, ih y (by simpa using hl) (fun n hn => hx n (Qm0 _ hn)) (fun n hn => hy n (Qm0 _ hn)) h2]
theorem mtoks_of {l : List Nat} {x y : List Qd} (h : x.map (Qfo l) = y.map (Qfo l)) : x.map (Qk1 l) = y.map (Qk1 l) := by
 have hl : x.length = y.length := by have := congrArg List.length h; simpa using this
 refine Qn7 (by simpa using hl) fun k k1 k2 => ?_
 rw [Qnm, Qnm]
 refine mtok_of ?_
 have := congrArg (fun q => q[k]?) h
 rw [Qmf] at k1 k2
 simpa [k1, k2] using this
def keyL (S : List Qa) (l : List Nat) (i : Nat) : List Int := if i = 0 then [102, 105, 114, 115, 116] else itB (l.getD i 0 : Int) ++ 58 :: Qii l (stA S i)
structure Qce (a : Qc) (l : List Nat) : Prop where
 len : l.length = a.States.length
 lt : ∀ x ∈ l, x < 500
theorem Qce.get {a : Qc} {l : List Nat} (h : Qce a l) (i : Nat) : l.getD i 0 < 500 := by
 by_cases hi : i < l.length
 ·rw [Zb hi]; exact h.lt _ (Qmg hi)
 ·rw [getD_far (by omega)]; omega
theorem RQ.mvL {a : Qc} (h : RQ a) {l : List Nat} (hl : Qce a l) {i : Nat} (hi : i < a.States.length) : ∀ m ∈ Go.Rv.mvs a.States i, Qf2 l m := fun m hm => by
 have hs := h.small (Qmg hi)
 have hq := h.mvs hi hm
 rw [Go.Rv.mvs, Wq hi] at hm
 obtain ⟨r, hr, hm'⟩ := Qn8.1 hm
 refine ⟨fun c hc => ?_, hs.ops r hr m hm', hl.get _⟩
 rcases hq with ⟨_, h2⟩ | ⟨_, _, _, h4⟩
 ·rw [h2] at hc; cases hc
 ·obtain ⟨j, hj, rfl⟩ := Qnf hc
  exact ⟨(h4 j hj).1, (h4 j hj).2.1⟩
theorem risesF_mem {below : Int} : ∀ (l : List Int) (last : Int), Qcn below last l = true → ∀ x ∈ l, last < x ∧ x < below := by
 intro l
 induction l with
 | nil => intro last _ x hx; cases hx
 | cons n l ih =>
  intro last h x hx
  simp only [Qcn, Qnh, Bool.not_eq_true', decide_eq_false_iff_not] at h
  rcases Qnx.1 hx with rfl | hx
  ·omega
  ·have := ih n h.2.2 x hx; omega
theorem StQ.rIt {n : Nat} {many : Int} {S : List Qa} {s : Qa} (h : StQ n many S s) (hn : n ≤ 512) : ∀ x ∈ s.R, Qib x := fun x hx => by
 have := risesF_mem s.R (-1) h.r x hx
 exact Tq (by omega) (by omega)
theorem StQ.ruleIt {n : Nat} {many : Int} {S : List Qa} {s : Qa} (h : StQ n many S s) : ∀ x ∈ s.Rule, Qib x := fun x hx => by
 have := h.rule x hx
 exact Tq (by omega) (by omega)
theorem sum_const : ∀ (l : List Nat) (c : Nat), (∀ x ∈ l, x = c) → l.sum = l.length * c := by
 intro l
 induction l with
 | nil => intro c _; simp
 | cons x l ih =>
  intro c h
  rw [List.sum_cons, ih c fun y hy => h y (Qm0 _ hy), h x Qm7, Qmw, Qoy]
  omega
theorem StQ.mvsLen {n : Nat} {many : Int} {S : List Qa} {s t : Qa} (hs : StQ n many S s) (ht : StQ n many S t) (hr : s.R.length = t.R.length) : s.Rule.length = t.Rule.length ∧ s.Next.length = t.Next.length ∧ s.Next.flatten.length = t.Next.flatten.length := by
 have e1 := hs.rl
 have e2 := ht.rl
 have e3 := hs.nl
 have e4 := ht.nl
 rw [hr] at e1 e3
 have f : ∀ u : Qa, StQ n many S u → u.Next.flatten.length = u.Next.length * many.toNat := fun u hu => by
  have := sum_const (u.Next.map List.length) many.toNat fun x hx => by
   obtain ⟨r, hr, rfl⟩ := Qnd.1 hx
   have := hu.row r hr
   omega
  rw [List.length_flatten, this, Qmf]
 have e5 : s.Next.length = t.Next.length := by omega
 exact ⟨by omega, e5, by rw [f s hs, f t ht, e5]⟩
theorem sign_cut {a : Qc} (h : RQ a) {l : List Nat} (hl : Qce a l) {i j : Nat} (hi : i < a.States.length) (hj : j < a.States.length) (he : Qii l (stA a.States i) = Qii l (stA a.States j)) : (stA a.States i).R = (stA a.States j).R ∧ (stA a.States i).Rule = (stA a.States j).Rule ∧ (mvs a.States i).map (Qfo l) = (mvs a.States j).map (Qfo l) := by
 have gi := h.st _ (Qmg hi)
 have gj := h.st _ (Qmg hj)
 have si := h.small (Qmg hi)
 have sj := h.small (Qmg hj)
 have mi := h.mvL hl hi
 have mj := h.mvL hl hj
 rw [mvs] at mi mj
 rw [mvs, mvs]
 rw [← Wq hi] at gi si
 rw [← Wq hj] at gj sj
 have ri := si.r
 have rj := sj.r
 have hcl := h.cl
 rw [Qii, Qii] at he
 obtain ⟨h1, h2⟩ := Qgr (Tq (by omega) (by omega)) (Tq (by omega) (by omega)) he
 have hr : (stA a.States i).R.length = (stA a.States j).R.length := by omega
 obtain ⟨l1, l2, l3⟩ := gi.mvsLen gj hr
 obtain ⟨h3, h4⟩ := toks_cut _ _ hr (gi.rIt hcl) (gj.rIt hcl) _ _ h2
 obtain ⟨h5, h6⟩ := toks_cut _ _ l1 gi.ruleIt gj.ruleIt _ _ h4
 exact ⟨h3, h5, mtoks_cut _ _ l3 mi mj h6⟩
theorem keyL_eq {a : Qc} (h : RQ a) {l : List Nat} (hl : Qce a l) {i j : Nat} (hi : i < a.States.length) (hj : j < a.States.length) : keyL a.States l i = keyL a.States l j ↔ Rh a.States l i = Rh a.States l j := by
 have oi : Qib (l.getD i 0 : Int) := Tq (by omega) (by have := hl.get i; omega)
 have oj : Qib (l.getD j 0 : Int) := Tq (by omega) (by have := hl.get j; omega)
 have hne : ∀ {n : Int} (u : List Int), Qib n → ([102, 105, 114, 115, 116] : List Int) ≠ itB n ++ 58 :: u := fun {n} u hn he => by
  have hp := hn.pos
  have hd := hn.dig
  cases hq : itB n with
  | nil => rw [hq] at hp; simp at hp
  | cons c t =>
   rw [hq] at hd he
   have h1 := hd c Qm7
   have h2 := (List.cons.inj he).1
   omega
 rw [keyL, keyL, Rh, Rh]
 by_cases h1 : i = 0 <;> by_cases h2 : j = 0
 ·rw [if_pos h1, if_pos h2, if_pos h1, if_pos h2]; simp
 ·rw [if_pos h1, if_neg h2, if_pos h1, if_neg h2]
  exact ⟨fun he => absurd he (hne _ oj), fun he => by cases he⟩
 ·rw [if_neg h1, if_pos h2, if_neg h1, if_pos h2]
  exact ⟨fun he => absurd he.symm (hne _ oi), fun he => by cases he⟩
 ·rw [if_neg h1, if_neg h2, if_neg h1, if_neg h2]
  simp only [Qmy, Qmo]
  constructor
  ·intro he
   obtain ⟨g1, g2⟩ := cut_eq _ _ _ _ (it_no oi (.inr rfl)) (it_no oj (.inr rfl)) he
   have g3 := it_inj oi oj g1
   exact ⟨by omega, sign_cut h hl hi hj g2⟩
  ·rintro ⟨g1, g2, g3, g4⟩
   have g5 := mtoks_of g4
   rw [mvs, mvs] at g5
   rw [g1, Qii, Qii, g2, g3, g5]
end Go.Rv
namespace Go.Rv
theorem ba_beq (a b : ByteArray) : (a == b) = decide (a = b) := by
 cases a with | mk a => cases b with | mk b =>
 show (a == b) = _
 rw [Qo6, Qnw, Qn0]
 constructor
 ·rintro rfl; rfl
 ·intro h; cases h; rfl
instance : LawfulBEq ByteArray where
 eq_of_beq {a b} h := by rw [ba_beq] at h; exact of_decide_eq_true h
 rfl {a} := by rw [ba_beq]; exact Qmk rfl
theorem Qju (a b : ByteArray) : Dk (a ++ b) = Dk a ++ Dk b := by
 simp only [Dk, ByteArray.data_append, Qoi, Qnk]
theorem bytesI_of {xs : List Int} (h : La xs = true) : Dk (ofBytes xs) = xs := by
 obtain ⟨l, rfl⟩ := okBytes_of h
 rw [Qj6]
 rfl
theorem bytesI_inj {a b : ByteArray} (h : Dk a = Dk b) : a = b := by
 have h1 : a.data.toList = b.data.toList := (List.map_inj_right (fun x y (e : ((x.toNat : Nat) : Int) = (y.toNat : Nat)) => UInt8.toNat_inj.1 (by omega))).1 h
 cases a with | mk a => cases b with | mk b =>
 have h2 : a = b := Array.ext' h1
 rw [h2]
theorem Qj5 {a b : List Int} (ha : La a = true) (hb : La b = true) : La (a ++ b) = true := by
 rw [La, List.all_append, Qnh]
 exact ⟨ha, hb⟩
theorem ok_of {a : List Int} (h : ∀ c ∈ a, 0 ≤ c ∧ c < 256) : La a = true := by
 rw [La, Qng]
 intro c hc
 obtain ⟨h1, h2⟩ := h c hc
 rw [Qmk h1, Qmk h2]
 rfl
theorem Qld {n : Int} (h : Qib n) : La (tok n) = true := by
 refine ok_of fun c hc => ?_
 rcases Qmj.1 hc with hc | hc
 ·have := h.dig c hc; omega
 ·rw [Qmp.1 hc]; omega
theorem Qa9 {n : Int} (h : Qib n) : (tok n).length ≤ 5 := by
 have := h.len
 rw [tok, Qmc, Qmh]; omega
theorem it_size {n : Int} (h : Qib n) : (itoaS n).size ≤ 4 := by
 have := h.len
 rw [itB, Qjt] at this
 exact this
theorem put1 {K : Nat} {n : Int} (h0 : -1 ≤ n) (h1 : n < 600) {acc : List Int} (hl : acc.length ≤ 1000000) : Jl K n acc = some (acc ++ tok n) := by
 have hs := it_size (Tq h0 h1)
 have e : Dk (⟨#[32]⟩ : ByteArray) = [32] := rfl
 have hsz : (itoaS n ++ (⟨#[32]⟩ : ByteArray)).size ≤ 5 := by rw [ByteArray.size_append]; show (itoaS n).size + 1 ≤ 5; omega
 rw [Jl, strconv_Itoa, if_pos (by omega), bS, Z5 (by show (itoaS n).size + 1 ≤ 9223372036854775807; omega), Vr, Yz, bS, Z5 (Zn.2 ⟨by simp only [maxLen]; omega, by omega⟩), bS]
 dsimp only
 rw [Qju, e]
 rfl
theorem put0 {K : Nat} {n : Int} (h0 : -1 ≤ n) (h1 : n < 600) : Qa7 K n [] = some (tok n) := put1 (acc := []) h0 h1 (by simp)
theorem mtok_ok {l : List Nat} {m : Qd} (h : Qf2 l m) : La (Qk1 l m) = true ∧ (Qk1 l m).length ≤ 13 := by
 obtain ⟨h1, h2, h3⟩ := h
 have i0 : Qib (-1) := Tq (by omega) (by omega)
 have i1 : Qib (l.getD m.To.toNat 0 : Int) := Tq (by omega) (by omega)
 have j1 : Qib (m.Ops.length : Int) := Tq (by omega) (by omega)
 rw [Qk1]
 split
 ·exact ⟨Qld i0, by have := Qa9 i0; omega⟩
 ·refine ⟨Qj5 (Qld i1) (Qj5 (ok_of fun c hc => by have := h1 c hc; omega) (Qld j1)), ?_⟩
  have := Qa9 i1
  have := Qa9 j1
  rw [Qmc, Qmc]; omega
theorem Wz {l : List Nat} {i : Nat} (h : i < l.length) : Yb (Z0 l) (i : Int) = some ((l.getD i 0 : Nat) : Int) := by
 rw [Q2 (by rw [Z0, Qmf]; exact h), Zb h]
 simp [Z0]
theorem sign_l2 (K : Nat) (l : List Nat) (ms : List Qd) (hl : ms.length ≤ 7000) (hm : ∀ m ∈ ms, Qf2 l m ∧ m.To < l.length) : ∀ (q k j : Nat) (acc : List Int), ms.length - j = q → q < k → 0 < acc.length → acc.length ≤ 1000 + 13 * j → La acc = true →
  Ll K k ms (ms.length : Int) (j : Int) (Z0 l) acc = some (ofBytes (acc ++ ((ms.drop j).map (Qk1 l)).flatten)) := by
 intro q
 induction q with
 | zero =>
  intro k j acc hq hk h0 h1 h2
  obtain ⟨k, rfl⟩ : ∃ q, k = q + 1 := ⟨k - 1, by omega⟩
  rw [Ll]
  dsimp only
  rw [Qme (by omega), cF, Qmn (by omega), Z5 h0, Z5 h2, Qob, List.flatten_nil, Qm1]
 | succ q ih =>
  intro k j acc hq hk h0 h1 h2
  obtain ⟨k, rfl⟩ : ∃ q, k = q + 1 := ⟨k - 1, by omega⟩
  have hj : j < ms.length := by omega
  obtain ⟨hmv, hto⟩ := hm _ (Qmg hj)
  have hw := B1 (n := j) (by omega)
  have hlt : (j : Int) < (ms.length : Int) := by omega
  obtain ⟨o1, o2⟩ := mtok_ok hmv
  have hih := ih k (j + 1) (acc ++ Qk1 l ms[j]) (by omega) (by omega) (by rw [Qmc]; omega) (by rw [Qmc]; omega) (Qj5 h2 o1)
  rw [Ll]
  dsimp only
  rw [Qmk hlt, cT, Q2 hj, bS, Qmi hj, Qmv, Qmz, ← Qmd, ← hih, hw]
  generalize ms[j] = m at *
  obtain ⟨g1, g2, g3⟩ := hmv
  by_cases h3 : m.To < 0
  ·rw [Qmk h3, cT, put1 (by omega) (by omega) (by omega), bS, Qk1, if_pos h3]
  ·obtain ⟨x, hx⟩ : ∃ x : Nat, m.To = (x : Int) := ⟨m.To.toNat, by omega⟩
   have hl1 := Qa9 (Tq (n := (l.getD x 0 : Int)) (by omega) (by rw [hx, Qml] at g3; omega))
   have hx2 : l.getD x 0 < 500 := by rw [hx, Qml] at g3; exact g3
   rw [Qme h3, cF, Qk1, if_neg h3, hx, Qml, Wz (by omega), bS, put1 (by omega) (by omega) (by omega), bS, Hk, Yz, bS, Z5 (Zn.2 ⟨by simp only [maxLen, Qmc]; omega, by simp only [Qmc]; omega⟩), bS]
   dsimp only
   rw [put1 (by omega) (by omega) (by simp only [Qmc]; omega), bS]
   simp only [Qmd]
theorem sign_l1 (K : Nat) (l : List Nat) (s : Qa) (hs : Cq s) (hK : 10000 ≤ K) (hr : ∀ x ∈ s.Rule, -1 ≤ x ∧ x < 600) (hm : ∀ m ∈ s.Next.flatten, Qf2 l m ∧ m.To < l.length) : ∀ (q k j : Nat) (acc : List Int), s.Rule.length - j = q → q < k → 0 < acc.length → acc.length ≤ 100 + 5 * j → j ≤ s.Rule.length → La acc = true →
  Mi K k s (s.Rule.length : Int) (j : Int) (Z0 l) acc = some (ofBytes (acc ++ (((s.Rule.drop j).map tok).flatten ++ (s.Next.flatten.map (Qk1 l)).flatten))) := by
 have hn := hs.next
 have hf := hs.flat
 have hrl := hs.rule
 intro q
 induction q with
 | zero =>
  intro k j acc hq hk h0 h1 hj h2
  obtain ⟨k, rfl⟩ : ∃ q, k = q + 1 := ⟨k - 1, by omega⟩
  rw [Mi]
  dsimp only
  have := sign_l2 K l s.Next.flatten (by omega) hm s.Next.flatten.length K 0 acc rfl (by omega) h0 (by omega) h2
  rw [Qmr, Qmu] at this
  rw [Qme (by omega), cF, Qmn (by omega), moves_eq K s (by omega) (by omega) (by omega), bS, this, Qob, List.flatten_nil, Qmq]
 | succ q ih =>
  intro k j acc hq hk h0 h1 hjl h2
  obtain ⟨k, rfl⟩ : ∃ q, k = q + 1 := ⟨k - 1, by omega⟩
  have hj : j < s.Rule.length := by omega
  obtain ⟨g1, g2⟩ := hr _ (Qmg hj)
  have hlt : (j : Int) < (s.Rule.length : Int) := by omega
  have hit := Tq g1 g2
  have := Qa9 hit
  rw [Mi]
  dsimp only
  rw [Qmk hlt, cT, Q2 hj, bS, put1 g1 g2 (by omega), bS, B1 (n := j) (by omega), ih k (j + 1) _ (by omega) (by omega) (by rw [Qmc]; omega) (by rw [Qmc]; omega) (by omega) (Qj5 h2 (Qld hit)), Qmi hj, Qmv, Qmz]
  simp only [Qmd]
theorem sign_l0 (K : Nat) (l : List Nat) (s : Qa) (hs : Cq s) (hK : 10000 ≤ K) (hR : ∀ x ∈ s.R, -1 ≤ x ∧ x < 600) (hr : ∀ x ∈ s.Rule, -1 ≤ x ∧ x < 600) (hm : ∀ m ∈ s.Next.flatten, Qf2 l m ∧ m.To < l.length) : ∀ (q k j : Nat) (acc : List Int), s.R.length - j = q → q < k → 0 < acc.length → acc.length ≤ 5 + 5 * j → j ≤ s.R.length → La acc = true →
  Mj K k s (s.R.length : Int) (j : Int) (Z0 l) acc = some (ofBytes (acc ++ (((s.R.drop j).map tok).flatten ++ ((s.Rule.map tok).flatten ++ (s.Next.flatten.map (Qk1 l)).flatten)))) := by
 have hn := hs.r
 have hrl := hs.rule
 intro q
 induction q with
 | zero =>
  intro k j acc hq hk h0 h1 hj h2
  obtain ⟨k, rfl⟩ : ∃ q, k = q + 1 := ⟨k - 1, by omega⟩
  rw [Mj]
  dsimp only
  have := sign_l1 K l s hs hK hr hm s.Rule.length K 0 acc rfl (by omega) h0 (by omega) (by omega) h2
  rw [Qmr, Qmu] at this
  rw [Qme (by omega), cF, Qmn (by omega), this, Qob, List.flatten_nil, Qmq]
 | succ q ih =>
  intro k j acc hq hk h0 h1 hjl h2
  obtain ⟨k, rfl⟩ : ∃ q, k = q + 1 := ⟨k - 1, by omega⟩
  have hj : j < s.R.length := by omega
  obtain ⟨g1, g2⟩ := hR _ (Qmg hj)
  have hlt : (j : Int) < (s.R.length : Int) := by omega
  have hit := Tq g1 g2
  have := Qa9 hit
  rw [Mj]
  dsimp only
  rw [Qmk hlt, cT, Q2 hj, bS, put1 g1 g2 (by omega), bS, B1 (n := j) (by omega), ih k (j + 1) _ (by omega) (by omega) (by rw [Qmc]; omega) (by rw [Qmc]; omega) (by omega) (Qj5 h2 (Qld hit)), Qmi hj, Qmv, Qmz]
  simp only [Qmd]
theorem sign_ok {K : Nat} (hK : 10000 ≤ K) {a : Qc} (h : RQ a) {l : List Nat} (hl : Qce a l) {i : Nat} (hi : i < a.States.length) : Qed K a.States[i] (Z0 l) = some (ofBytes (Qii l (stA a.States i))) := by
 have hs := h.small (Qmg hi)
 have hq := h.st _ (Qmg hi)
 have hm := h.mvL hl hi
 have hto := h.toOk i hi
 have hr := hs.r
 have hcl := h.cl
 rw [mvs, Wq hi] at hm
 rw [mvs, Wq hi] at hto
 have i0 : Qib (a.States[i].R.length : Int) := Tq (by omega) (by omega)
 have := sign_l0 K l a.States[i] hs hK (fun x hx => by have := risesF_mem _ (-1) hq.r x hx; omega) (fun x hx => by have := hq.rule x hx; omega) (fun m hm' => ⟨hm m hm', by rw [hl.len]; exact hto m hm'⟩) a.States[i].R.length K 0 (tok (a.States[i].R.length : Int)) rfl (by omega) (by rw [tok, Qmc, Qmh]; omega) (Qa9 i0) (Qmm _) (Qld i0)
 rw [Qmr, Qmu] at this
 rw [Qed, put0 (by omega) (by omega), bS, this, Qii, Wq hi]
/- The map. -/
def Qiz (U : List ByteArray) : List (ByteArray × Int) := (U.zipIdx).map fun p => (p.1, (p.2 : Int))
theorem Qln (U : List ByteArray) (k : ByteArray) : Qiz (U ++ [k]) = Qiz U ++ [(k, (U.length : Int))] := by
 simp [Qiz, List.zipIdx_append]
theorem knownM_len (U : List ByteArray) : (Qiz U).length = U.length := by simp [Qiz]
theorem lookup_app {α β : Type} [BEq α] [LawfulBEq α] (x : α) : ∀ (A B : List (α × β)), (A ++ B).lookup x = (A.lookup x).or (B.lookup x) := by
 intro A
 induction A with
 | nil => intro B; rfl
 | cons p A ih =>
  intro B
  rw [Qnu, Qnr, Qnr]
  cases x == p.1 with
  | true => rfl
  | false => exact ih B
def posK {κ : Type} [DecidableEq κ] (U : List κ) (x : κ) : Nat := U.idxOf x
theorem posK_in {κ : Type} [DecidableEq κ] {V W : List κ} {x : κ} (h : x ∈ V) : posK (V ++ W) x = posK V x := by rw [posK, posK, Qpb, if_pos h]
theorem posK_new {κ : Type} [DecidableEq κ] {V : List κ} {x : κ} (h : x ∉ V) : posK (V ++ [x]) x = V.length := by rw [posK, Qpb, if_neg h]; simp
theorem posK_lt {κ : Type} [DecidableEq κ] {U : List κ} {x : κ} (h : x ∈ U) : posK U x < U.length := Qn1.2 h
theorem dealF_cons {κ : Type} [DecidableEq κ] (U : List κ) (k : κ) (l : List κ) : Rb U (k :: l) = posK (Qfg U k) k :: Rb (Qfg U k) l := rfl
theorem look_rev (x : ByteArray) : ∀ (q : Nat) (U : List ByteArray), U.length = q → (Qiz U).lookup x = if x ∈ U then some ((posK U x : Nat) : Int) else none := by
 intro q
 induction q with
 | zero => intro U hU; rw [Qn3.1 hU]; rfl
 | succ q ih =>
  intro U hU
  rcases List.eq_nil_or_concat U with rfl | ⟨V, k, rfl⟩
  ·simp at hU
  ·rw [List.concat_eq_append] at hU ⊢
   rw [Qln, lookup_app, ih V (by simpa using hU)]
   by_cases hx : x ∈ V
   ·rw [if_pos hx, if_pos (Qmj.2 (.inl hx)), posK_in hx]
    rfl
   ·rw [if_neg hx, Option.none_or, Qnr]
    by_cases hk : x = k
    ·subst hk
     rw [if_pos (Qmj.2 (.inr (Qmp.2 rfl))), Qnn, posK_new hx]
    ·rw [if_neg (fun hc => by
      rcases Qmj.1 hc with hc | hc
      ·exact hx hc
      ·exact hk (Qmp.1 hc)), Qmt.2 hk]
     rfl
theorem look (x : ByteArray) (U : List ByteArray) : (Qiz U).lookup x = if x ∈ U then some ((posK U x : Nat) : Int) else none := look_rev x U.length U rfl
def Qk3 (S : List Qa) (l : List Nat) (i : Nat) : ByteArray := if i = 0 then ⟨#[102, 105, 114, 115, 116]⟩ else (itoaS (l.getD i 0 : Int) ++ (⟨#[58]⟩ : ByteArray)) ++ ofBytes (Qii l (stA S i))
def N3 (S : List Qa) (l : List Nat) : List ByteArray := (List.range S.length).map (Qk3 S l)
theorem sign_bytes {a : Qc} (h : RQ a) {l : List Nat} (hl : Qce a l) {i : Nat} (hi : i < a.States.length) : La (Qii l (stA a.States i)) = true ∧ (Qii l (stA a.States i)).length ≤ 100000 := by
 have hs := h.small (Qmg hi)
 have hq := h.st _ (Qmg hi)
 have hm := h.mvL hl hi
 rw [mvs] at hm
 rw [← Wq hi] at hs hq
 have hr := hs.r
 have hrl := hs.rule
 have hcl := h.cl
 have hfl := hs.flat
 have i0 : Qib ((stA a.States i).R.length : Int) := Tq (by omega) (by omega)
 have f : ∀ (xs : List Int), (∀ x ∈ xs, Qib x) → La (xs.map tok).flatten = true ∧ (xs.map tok).flatten.length ≤ xs.length * 5 := fun xs hx => by
  refine ⟨ok_of fun c hc => ?_, ?_⟩
  ·obtain ⟨r, hr, hc⟩ := Qn8.1 hc
   obtain ⟨x, hx', rfl⟩ := Qnd.1 hr
   rcases Qmj.1 hc with hc | hc
   ·have := (hx x hx').dig c hc; omega
   ·rw [Qmp.1 hc]; omega
  ·have := rows_len (xs.map tok) (c := 5) fun r hr => by
    obtain ⟨x, hx', rfl⟩ := Qnd.1 hr
    exact Qa9 (hx x hx')
   rw [Qmf] at this
   exact this
 obtain ⟨a1, a2⟩ := f _ (hq.rIt hcl)
 obtain ⟨b1, b2⟩ := f _ hq.ruleIt
 have c1 : La ((stA a.States i).Next.flatten.map (Qk1 l)).flatten = true := by
  rw [La, Qng]
  intro c hc
  obtain ⟨r, hr, hc⟩ := Qn8.1 hc
  obtain ⟨m, hm', rfl⟩ := Qnd.1 hr
  exact Qng.1 (mtok_ok (hm m hm')).1 c hc
 have c2 := rows_len ((stA a.States i).Next.flatten.map (Qk1 l)) (c := 13) fun r hr => by
  obtain ⟨m, hm', rfl⟩ := Qnd.1 hr
  exact (mtok_ok (hm m hm')).2
 rw [Qmf] at c2
 have := Qa9 i0
 rw [Qii]
 refine ⟨Qj5 (Qld i0) (Qj5 a1 (Qj5 b1 c1)), ?_⟩
 simp only [Qmc]
 omega
theorem keyB_bytes {a : Qc} (h : RQ a) {l : List Nat} (hl : Qce a l) {i : Nat} (hi : i < a.States.length) : Dk (Qk3 a.States l i) = keyL a.States l i := by
 rw [Qk3, keyL]
 split
 ·rfl
 ·rw [Qju, Qju, bytesI_of (sign_bytes h hl hi).1, Qmd]
  rfl
theorem keyB_eq {a : Qc} (h : RQ a) {l : List Nat} (hl : Qce a l) {i j : Nat} (hi : i < a.States.length) (hj : j < a.States.length) : Qk3 a.States l i = Qk3 a.States l j ↔ Rh a.States l i = Rh a.States l j := by
 rw [← keyL_eq h hl hi hj, ← keyB_bytes h hl hi, ← keyB_bytes h hl hj]
 exact ⟨fun e => by rw [e], bytesI_inj⟩
theorem deal_zip {κ μ : Type} [DecidableEq κ] [DecidableEq μ] (P : κ → μ → Prop) (hP : ∀ a b x y, P a x → P b y → (a = b ↔ x = y)) : ∀ (zs : List (κ × μ)) (A : List (κ × μ)), (∀ z ∈ zs, P z.1 z.2) → (∀ z ∈ A, P z.1 z.2) →
  Rb (A.map (·.1)) (zs.map (·.1)) = Rb (A.map (·.2)) (zs.map (·.2)) ∧ (W8 (A.map (·.1)) (zs.map (·.1))).length = (W8 (A.map (·.2)) (zs.map (·.2))).length := by
 intro zs
 induction zs with
 | nil => intro A _ _; exact ⟨rfl, by simp [W8]⟩
 | cons z zs ih =>
  intro A hz hA
  have hpz := hz z Qm7
  have hmem : z.1 ∈ A.map (·.1) ↔ z.2 ∈ A.map (·.2) := by
   constructor
   ·intro h
    obtain ⟨y, hy, e⟩ := Qnd.1 h
    exact Qnd.2 ⟨y, hy, (hP _ _ _ _ (hA y hy) hpz).1 e⟩
   ·intro h
    obtain ⟨y, hy, e⟩ := Qnd.1 h
    exact Qnd.2 ⟨y, hy, (hP _ _ _ _ (hA y hy) hpz).2 e⟩
  have hidx : ∀ B : List (κ × μ), (∀ z ∈ B, P z.1 z.2) → (B.map (·.1)).idxOf z.1 = (B.map (·.2)).idxOf z.2 := by
   intro B
   induction B with
   | nil => intro _; rfl
   | cons y B ihB =>
    intro hB
    have hy := hP _ _ _ _ (hB y Qm7) hpz
    rw [Qmv, Qmv, List.idxOf_cons, List.idxOf_cons, ihB fun w hw => hB w (Qm0 _ hw)]
    by_cases he : y.1 = z.1
    ·rw [Qn0.2 he, Qn0.2 (hy.1 he)]
    ·rw [Qmt.2 he, Qmt.2 fun e => he (hy.2 e)]
  have hadd : ∃ B : List (κ × μ), Qfg (A.map (·.1)) z.1 = B.map (·.1) ∧ Qfg (A.map (·.2)) z.2 = B.map (·.2) ∧ ∀ z ∈ B, P z.1 z.2 := by
   rw [Qfg, Qfg]
   by_cases h : z.1 ∈ A.map (·.1)
   ·rw [if_pos h, if_pos (hmem.1 h)]
    exact ⟨A, rfl, rfl, hA⟩
   ·rw [if_neg h, if_neg (fun e => h (hmem.2 e))]
    refine ⟨A ++ [z], by simp, by simp, fun w hw => ?_⟩
    rcases Qmj.1 hw with hw | hw
    ·exact hA w hw
    ·rw [Qmp.1 hw]; exact hpz
  obtain ⟨B, e1, e2, hB⟩ := hadd
  obtain ⟨g1, g2⟩ := ih B (fun w hw => hz w (Qm0 _ hw)) hB
  rw [Qmv, Qmv, Rb, Rb, W8, W8, e1, e2]
  exact ⟨by rw [g1, hidx B hB], g2⟩
theorem keysBA_deal {a : Qc} (h : RQ a) {l : List Nat} (hl : Qce a l) : Rb [] (N3 a.States l) = Qhy a.States l ∧ (W8 [] (N3 a.States l)).length = Qlm a.States l := by
 have := deal_zip (fun k s => ∃ i, i < a.States.length ∧ k = Qk3 a.States l i ∧ s = Rh a.States l i) (fun a' b x y ⟨i, hi, h1, h2⟩ ⟨j, hj, h3, h4⟩ => by rw [h1, h2, h3, h4]; exact keyB_eq h hl hi hj) ((List.range a.States.length).map fun i => (Qk3 a.States l i, Rh a.States l i)) [] (fun z hz => by
  obtain ⟨i, hi, rfl⟩ := Qnd.1 hz
  exact ⟨i, Qny.1 hi, rfl, rfl⟩) (fun z hz => by cases hz)
 simp only [Qph, Qob] at this
 exact this
theorem blocks_l1 (K : Nat) (hK : 10000 ≤ K) {a : Qc} (h : RQ a) {l : List Nat} (hl : Qce a l) (go : Int → Qc → (List Int) → Option (List Int)) (many : Nat) : ∀ (q k i : Nat) (U : List ByteArray) (X : List Nat), a.States.length - i = q → q < k → i ≤ a.States.length → X.length = i → U.length ≤ i →
  Vu K go k (many : Int) a (a.States.length : Int) (i : Int) (Z0 l) (Qiz U) (Z0 X ++ List.replicate (a.States.length - i) 0) = bif ((W8 U ((N3 a.States l).drop i)).length : Int) == (many : Int) then some (Z0 (X ++ Rb U ((N3 a.States l).drop i))) else go ((W8 U ((N3 a.States l).drop i)).length : Int) a (Z0 (X ++ Rb U ((N3 a.States l).drop i))) := by
 have hn := h.n2
 intro q
 induction q with
 | zero =>
  intro k i U X hq hk hi hX hU
  obtain ⟨k, rfl⟩ : ∃ q, k = q + 1 := ⟨k - 1, by omega⟩
  have e0 : a.States.length - i = 0 := by omega
  have e1 : (N3 a.States l).drop i = [] := Qmn (by rw [N3, Qmf, Qm9]; omega)
  rw [Vu]
  dsimp only
  rw [Qme (by omega), cF, e0, e1, knownM_len, W8, Rb, List.replicate_zero, Qm1, Qm1]
 | succ q ih =>
  intro k i U X hq hk hi hX hU
  obtain ⟨k, rfl⟩ : ∃ q, k = q + 1 := ⟨k - 1, by omega⟩
  have hil : i < a.States.length := by omega
  have hlt : (i : Int) < (a.States.length : Int) := by omega
  have e1 : a.States.length - i = (a.States.length - (i + 1)) + 1 := by omega
  have hkl : i < (N3 a.States l).length := by rw [N3, Qmf, Qm9]; exact hil
  have hki : (N3 a.States l)[i] = Qk3 a.States l i := by simp [N3]
  have hcl : (Z0 X).length = i := by rw [Z0, Qmf]; exact hX
  have hj2 : Kr K (Vu K go k) (many : Int) (i : Int) (Qk3 a.States l i) a (a.States.length : Int) (i : Int) (Z0 l) (Qiz U) (Z0 X ++ 0 :: List.replicate (a.States.length - (i + 1)) 0) = bif ((W8 U ((N3 a.States l).drop i)).length : Int) == (many : Int) then some (Z0 (X ++ Rb U ((N3 a.States l).drop i))) else go ((W8 U ((N3 a.States l).drop i)).length : Int) a (Z0 (X ++ Rb U ((N3 a.States l).drop i))) := by
   have hadl : (Qfg U (Qk3 a.States l i)).length ≤ i + 1 := by
    rw [Qfg]; split
    ·omega
    ·rw [Qmc, Qmh]; omega
   have h3 := ih k (i + 1) (Qfg U (Qk3 a.States l i)) (X ++ [posK (Qfg U (Qk3 a.States l i)) (Qk3 a.States l i)]) (by omega) (by omega) (by omega) (by rw [Qmc, Qmh]; omega) hadl
   have hc : Z0 (X ++ [posK (Qfg U (Qk3 a.States l i)) (Qk3 a.States l i)]) = Z0 X ++ [((posK (Qfg U (Qk3 a.States l i)) (Qk3 a.States l i) : Nat) : Int)] := by simp [Z0]
   rw [hc, Qmd, Qno, Qmd, Qno] at h3
   rw [Qmi hkl, hki, W8, dealF_cons, ← h3]
   have hg := Qb4 (Z0 X) (List.replicate (a.States.length - (i + 1)) (0 : Int)) 0
   have hs := fun v => Qbh (Z0 X) (List.replicate (a.States.length - (i + 1)) (0 : Int)) 0 v
   rw [hcl] at hg
   rw [hcl] at hs
   rw [Kr, look]
   by_cases hm : Qk3 a.States l i ∈ U
   ·have ha : Qfg U (Qk3 a.States l i) = U := by rw [Qfg, if_pos hm]
    rw [if_pos hm, Option.isSome_some, Qm5, cF, Kq, hg, bS, look, if_pos hm, Qnv, Qml, hs, B1 (n := i) (by omega), ha]
   ·have ha : Qfg U (Qk3 a.States l i) = U ++ [Qk3 a.States l i] := by rw [Qfg, if_neg hm]
    have hin : Qk3 a.States l i ∈ U ++ [Qk3 a.States l i] := Qmj.2 (.inr (Qmp.2 rfl))
    rw [if_neg hm, Option.isSome_none, Qm4, cT, Z5 rfl, knownM_len, ← Qln, Kq, hg, bS, look, if_pos hin, Qnv, Qml, hs, B1 (n := i) (by omega), ha]
  rw [Vu]
  dsimp only
  rw [Qmk hlt, cT, Q2 hil, bS, e1, Qnt]
  by_cases h0 : i = 0
  ·subst h0
   rw [Qme (by omega), cF]
   exact hj2
  ·have hgl := hl.get i
   have hsz := it_size (Tq (n := (l.getD i 0 : Int)) (by omega) (by omega))
   have hsg := (sign_bytes h hl hil)
   have hsz2 : (ofBytes (Qii l (stA a.States i))).size ≤ 100000 := by rw [← Qjt, bytesI_of hsg.1]; exact hsg.2
   rw [Qmk (by omega), cT, Wz (by rw [hl.len]; exact hil), bS, strconv_Itoa, if_pos (by omega), bS, Z5 (by show (itoaS (l.getD i 0 : Int)).size + 1 ≤ 9223372036854775807; omega), sign_ok hK h hl hil, bS, Z5 (by rw [ByteArray.size_append]; show (itoaS (l.getD i 0 : Int)).size + 1 + _ ≤ 9223372036854775807; omega)]
   rw [Qk3, if_neg h0] at hj2
   exact hj2
theorem next_num {a : Qc} (h : RQ a) (l : List Nat) : Qce a (Qhy a.States l) :=
 ⟨Qlk _ _, fun x hx => by
  rw [Qhy, Qi3] at hx
  obtain ⟨k, hk, rfl⟩ := Qnd.1 hx
  have h1 := posK_lt ((O2 (Qb1 a.States l) [] k).2 (.inr hk))
  show posK (W8 [] (Qb1 a.States l)) k < 500
  have h2 := Qk2 a.States l
  have := h.n2
  rw [Qlm] at h2
  omega⟩
theorem castL_repl (n : Nat) : Z0 (List.replicate n 0) = List.replicate n 0 := by rw [Z0, Qok]; rfl
theorem blocks_l0 (K : Nat) (hK : 10000 ≤ K) {a : Qc} (h : RQ a) : ∀ (k' k : Nat) (l : List Nat) (many : Nat), k' ≤ k → Qce a l → many ≤ (W8 [] l).length → a.States.length < k' + many →
  Wj K k (many : Int) a (Z0 l) = some (Z0 (blkS a.States k' l many)) := by
 intro k'
 induction k' with
 | zero =>
  intro k l many _ h1 h2 h3
  have := (Qa0 h1.len).1
  have := Qk2 a.States l
  omega
 | succ k' ih =>
  intro k l many hk h1 h2 h3
  obtain ⟨k, rfl⟩ : ∃ q, k = q + 1 := ⟨k - 1, by omega⟩
  have hn := h.n2
  have hcl : (Z0 l).length = a.States.length := by rw [Z0, Qmf]; exact h1.len
  have h4 := blocks_l1 K hK h h1 (Wj K k) many a.States.length K 0 [] [] rfl (by omega) (Qmm _) rfl (Qmm _)
  obtain ⟨d1, d2⟩ := keysBA_deal h h1
  rw [Qmr, Qmu, Qmq, d1, d2, Qnj] at h4
  have hle := (Qa0 h1.len).1
  rw [Wj]
  dsimp only
  rw [hcl, Z5 (by omega), Z5 (Zn.2 ⟨by simp only [maxLen]; omega, by omega⟩), Qml, blkS]
  refine Eq.trans h4 ?_
  by_cases he : Qlm a.States l = many
  ·rw [if_pos he, he, Qnn, cT]
  ·rw [if_neg he, Qmt.2 (by omega), cF]
   exact ih k _ _ (by omega) (next_num h l) (by rw [Qk6]; exact Qms _) (by omega)
theorem blocks_ok {K : Nat} (hK : 10000 ≤ K) {a : Qc} (h : Sg a) : Lt K a = some (Z0 (Lc a.States)) := by
 have hn := h.1.n2
 have := blocks_l0 K hK h.1 (a.States.length + 1) K (List.replicate a.States.length 0) 0 (by omega) ⟨Qm2 .., fun x hx => by rw [(List.mem_replicate.1 hx).2]; omega⟩ (Qmm _) (by omega)
 rw [castL_repl] at this
 rw [Lt, h.auto (by omega), bS, Qm5, cF, Z5 (by omega), Z5 (Zn.2 ⟨by simp only [maxLen]; omega, by omega⟩), Qml]
 exact this
end Go.Rv

/- Trimming, plainly: what is trimmed is right. -/
import Derived.Test.YtcmfaclkgdmpbaaGreatDoorRpUI
namespace Go.Rv
def withS (a : Qm) (S : List Qa) : Qm := ⟨a.Split, a.Counts, S⟩
def sendOk (S T : List Qa) (to : List Int) : Prop := ∀ i, 1 ≤ i → i < S.length → to.getD i (-1) = -1 ∨ (1 ≤ to.getD i (-1) ∧ to.getD i (-1) < T.length ∧ (stA T (to.getD i (-1)).toNat).R = (stA S i).R)
theorem sendM_ok {S T : List Qa} {to : List Int} (h : sendOk S T to) {R : List Int} {m : Qc} (hm : MvQ S R m) : MvQ T R (Ca to m) := by
 rw [Ca]
 rcases hm with ⟨h1, h2⟩ | ⟨h1, h2, h3, h4⟩
 ·rw [if_neg (by omega)]; exact .inl ⟨rfl, rfl⟩
 ·rcases h m.To.toNat (by omega) (by omega) with g | ⟨g1, g2, g3⟩
  ·rw [if_neg (by omega)]; exact .inl ⟨rfl, rfl⟩
  ·rw [if_pos ⟨by omega, by omega⟩]
   refine .inr ⟨g1, g2, ?_, ?_⟩
   ·dsimp only; rw [g3]; exact h3
   ·dsimp only; rw [g3]; exact h4
theorem sendSt_ok {n : Nat} {many : Int} {S T : List Qa} {to : List Int} (h : sendOk S T to) {s : Qa} (hs : StQ n many S s) : StQ n many T (Ov to s) := by
 obtain ⟨h1, h2, h3, h4, h5, h6, h7, h8⟩ := hs
 refine ⟨h1, h2, ?_, h4, h5, h6, fun r hr => ?_, fun r hr m hm => ?_⟩
 ·rw [Ov]; dsimp only; rw [Qgn]; exact h3
 ·obtain ⟨q, hq, rfl⟩ := Qhe.1 hr
  rw [Qgn]; exact h7 q hq
 ·obtain ⟨q, hq, rfl⟩ := Qhe.1 hr
  obtain ⟨m', hm', rfl⟩ := Qhe.1 hm
  exact sendM_ok h (h8 q hq m' hm')
theorem RQ.send {a : Qm} (h : RQ a) {to : List Int} (hs : sendOk a.States (Ef to a.States) to) : RQ (withS a (Ef to a.States)) := by
 refine ⟨h.split, h.cl, h.cn, ?_, ?_, ?_, ?_, fun s hs' => ?_⟩
 ·show 1 ≤ (Ef to a.States).length
  rw [Hu]; exact h.n1
 ·show (Ef to a.States).length ≤ 256
  rw [Hu]; exact h.n2
 ·show (stA (Ef to a.States) 0).L = []
  rw [Tm]; exact h.l0
 ·show (stA (Ef to a.States) 0).R = []
  rw [Tm]; exact h.r0
 ·obtain ⟨q, hq, rfl⟩ := Qhe.1 hs'
  exact sendSt_ok hs (h.st q hq)
theorem RQ.bury {a : Qm} (h : RQ a) (l : List Bool) : RQ (withS a (V5 a.States l)) :=
 h.send fun i h1 h2 => by
  rw [Qdi]
  split
  ·refine .inr ⟨by omega, by rw [Hu]; omega, ?_⟩
   rw [Tm, Qgp]; rfl
  ·exact .inl rfl
theorem Qfz {l : List Nat} {i : Nat} (h : i < l.length) : l.idxOf l[i] ≤ i ∧ l.idxOf l[i] < l.length ∧ eqL l (l.idxOf l[i]) i := by
 have h1 : l.idxOf l[i] < l.length := Qht.2 (Qgm h)
 refine ⟨?_, h1, ?_⟩
 ·refine Decidable.byContradiction fun hc => ?_
  have := List.not_of_lt_findIdx (p := (· == l[i])) (xs := l) (i := i) (by rw [List.idxOf] at hc; omega)
  simp at this
 ·rw [eqL, Za h1, Za h, Qig h1]
theorem RQ.join {a : Qm} (h : RQ a) : RQ (withS a (S4 a.States)) :=
 h.send fun i h1 h2 => by
  have hb := Jc h.toOk
  have hi : i < (X0 a.States).length := by rw [hb.len]; exact h2
  obtain ⟨g1, g2, g3⟩ := Qfz hi
  rw [Qdg hi]
  have hs := hb.sim _ _ (by rw [← hb.len]; exact g2) h2 g3
  rw [Qgp, Hu, Tm]
  rcases hs with hs | ⟨hs1, hs2, hs3, _⟩
  ·omega
  ·refine .inr ⟨by omega, by rw [hb.len] at g2; omega, ?_⟩
   exact hs3
theorem order_zero {S : List Qa} (hT : toOk S) (h0 : 0 < S.length) : 0 < (X4 S).length ∧ (X4 S).getD 0 0 = 0 ∧ (X4 S).idxOf 0 = 0 := by
 obtain ⟨t, ht⟩ := (Ex hT h0).pre
 rw [ht]
 exact ⟨by simp, by simp, by simp [List.idxOf, List.findIdx_cons]⟩
theorem order_len {S : List Qa} (hT : toOk S) (h0 : 0 < S.length) : (X4 S).length ≤ S.length := by
 have ho := Ex hT h0
 have := Tf (X4 S) (List.range S.length) ho.nodup fun x hx => Qh8.2 (ho.lt x hx)
 rw [Qhi] at this
 exact this
theorem Qfy {S : List Qa} {i : Nat} (h : i < (X4 S).length) : stA (Qde S) i = Ov (Eu S.length (X4 S)) (stA S ((X4 S)[i])) := by
 rw [Ww (by rw [P9]; exact h)]
 simp only [Qde, Qhq]
theorem RQ.keep {a : Qm} (h : RQ a) : RQ (withS a (Qde a.States)) := by
 have h0 := h.n1
 have ho := Ex h.toOk (by omega)
 obtain ⟨z1, z2, z3⟩ := order_zero h.toOk (by omega)
 have z4 : (X4 a.States)[0] = 0 := by rw [Za z1] at z2; exact z2
 have hs : sendOk a.States (Qde a.States) (Eu a.States.length (X4 a.States)) := fun i h1 h2 => by
  rw [Tz h2]
  split
  ·next hm =>
   have g := Qht.2 hm
   have gg := Qig g
   refine .inr ⟨?_, by rw [P9]; omega, ?_⟩
   ·have : (X4 a.States).idxOf i ≠ 0 := fun e => by
     simp only [e] at gg
     rw [z4] at gg; omega
    omega
   ·rw [Qgp, Qfy g, gg]; rfl
  ·exact .inl rfl
 refine ⟨h.split, h.cl, h.cn, ?_, ?_, ?_, ?_, fun s hs' => ?_⟩
 ·show 1 ≤ (Qde a.States).length
  rw [P9]; exact z1
 ·show (Qde a.States).length ≤ 256
  have := order_len h.toOk (by omega)
  have := h.n2
  rw [P9]; omega
 ·show (stA (Qde a.States) 0).L = []
  rw [Qfy z1, z4]; exact h.l0
 ·show (stA (Qde a.States) 0).R = []
  rw [Qfy z1, z4]; exact h.r0
 ·obtain ⟨q, hq, rfl⟩ := Qhe.1 hs'
  have hql := ho.lt q hq
  exact sendSt_ok hs (by rw [Ww hql]; exact h.st _ (Qgm hql))
def trimA (a : Qm) (l : List Bool) : Qm := withS a (B9 a.States l (a.Counts.length == 0))
theorem RQ.trim {a : Qm} (h : RQ a) (l : List Bool) : RQ (trimA a l) := by
 rw [trimA, B9]
 split
 ·exact (h.bury l).join.keep
 ·exact (h.bury l).keep
end Go.Rv
namespace Go.Rv
theorem bind_id {α : Type} (o : Option α) : (o.bind fun v => some v) = o := by cases o <;> rfl
theorem bury_l0 (K : Nat) (t : Qb) (l : List Bool) (hl : l.length ≤ 256) : ∀ (q k i : Nat) (X : List Int), l.length - i = q → q < k → X.length = i → i ≤ l.length →
  Yz K k l (l.length : Int) (i : Int) t (X ++ List.replicate (l.length - i) 0) = Vc K t (X ++ (Qfb l).drop i) := by
 intro q
 induction q with
 | zero =>
  intro k i X hq hk hX hi
  obtain ⟨k, rfl⟩ := Qjp k (by omega)
  have e0 : l.length - i = 0 := by omega
  rw [Yz]
  dsimp only
  rw [Qgr (by omega), cF, e0, Qg1 (by rw [Qfb, Qgn, Qhi]; omega), bind_id]
  rfl
 | succ q ih =>
  intro k i X hq hk hX hi
  obtain ⟨k, rfl⟩ := Qjp k (by omega)
  have hil : i < l.length := by omega
  have hlt : (i : Int) < (l.length : Int) := by omega
  have e1 : l.length - i = (l.length - (i + 1)) + 1 := by omega
  have hbl : i < (Qfb l).length := by rw [Qfb, Qgn, Qhi]; exact hil
  have hd := Qgt hbl
  have hb : (Qfb l)[i] = if l[i] = true then (i : Int) else -1 := by
   have := Qdi (l := l) (i := i)
   rw [Za hbl, Za hil] at this
   exact this
  have h3 := fun y => ih k (i + 1) (X ++ [y]) (by omega) (by omega) (by rw [Qgl, Qgs]; omega) (by omega)
  simp only [Qgj, Qic] at h3
  have hset : ∀ y z : Int, (X ++ y :: List.replicate (l.length - (i + 1)) 0).set i z = X ++ z :: List.replicate (l.length - (i + 1)) 0 := fun y z => by
   have := Qdy X (List.replicate (l.length - (i + 1)) 0) y z
   rw [hX] at this; exact this
  have hget : ∀ y : Int, Yw (X ++ y :: List.replicate (l.length - (i + 1)) 0) (i : Int) = some y := fun y => by
   have := Qd7 X (List.replicate (l.length - (i + 1)) 0) y
   rw [hX] at this; exact this
  rw [Yz]
  dsimp only
  rw [Qgu hlt, cT, Ze hil, bS, e1, Qh4, hget, bS, Qgp, hset, hget, hset, Pm (n := i) (by omega), hd, hb]
  cases hv : l[i] with
  | true => rw [Qh2, cF, if_pos rfl, h3]
  | false => rw [Qhm, cT, bS, if_neg (by decide), h3]
theorem send_of {K : Nat} (hK : 1000 ≤ K) {a : Qm} (h : RQ a) {to : List Int} (ht : to.length = a.States.length) : Vc K ⟨a⟩ to = some ⟨withS a (Ef to a.States)⟩ :=
 send_ok K hK a to h.n2 (fun s hs => h.small hs) fun s hs r hr m hm => by
  obtain ⟨i, hi, rfl⟩ := Qhg hs
  have := h.toOk i hi m (by rw [mvs, Ww hi]; exact Qir.2 ⟨r, hr, hm⟩)
  omega
theorem send1_of {K : Nat} (hK : 1000 ≤ K) {a : Qm} (h : RQ a) {to : List Int} (ht : to.length = a.States.length) : Xu K ⟨a⟩ to = some ⟨withS a (Ef to a.States)⟩ :=
 send1_ok K hK a to h.n2 (fun s hs => h.small hs) fun s hs r hr m hm => by
  obtain ⟨i, hi, rfl⟩ := Qhg hs
  have := h.toOk i hi m (by rw [mvs, Ww hi]; exact Qir.2 ⟨r, hr, hm⟩)
  omega
theorem bury_ok' {a : Qm} (h : Pl a) {K : Nat} (hK : 10000000 ≤ K) : ∃ l, Qes a.States l ∧ Wv K ⟨a⟩ = some ⟨withS a (V5 a.States l)⟩ := by
 obtain ⟨l, h1, h2⟩ := live_ok h hK
 have hn := h.1.n2
 have hl := h2.len
 have h3 := bury_l0 K ⟨a⟩ l (by omega) l.length K 0 [] rfl (by omega) rfl (Qgx _)
 rw [Qg5, Qhj, Qgw, Qgw, Qhp, send_of (by omega) h.1 (by rw [Qfb, Qgn, Qhi]; exact hl)] at h3
 refine ⟨l, h2, ?_⟩
 rw [Wv]
 dsimp only
 rw [Yp (by omega), Yp (Z3.2 ⟨by simp only [maxLen]; omega, by omega⟩), h1, bS, Qgp, ← hl]
 exact h3
def Jk (o : List Nat) : List Int := o.map fun n : Nat => (n : Int)
theorem Bb (n : Nat) (o : List Nat) : (Eu n o).length = n := by rw [Eu, Qgn, Qhi]
theorem keepT_snoc {n x : Nat} {o : List Nat} (hx : x < n) (h : x ∉ o) : (Eu n o).set x (o.length : Int) = Eu n (o ++ [x]) := by
 have _ := hx
 refine Qjg (by rw [Qh3, Bb, Bb]) fun i h1 h2 => ?_
 rw [Bb] at h2
 have e := Tz (n := n) (o := o ++ [x]) h2
 rw [Za (by rw [Bb]; exact h2)] at e
 rw [e]
 by_cases hi : x = i
 ·subst hi
  rw [List.getElem_set_self, if_pos (Qgk.2 (.inr (Qgo.2 rfl))), Qjd, if_neg h]
  simp
 ·have e2 := Tz (n := n) (o := o) h2
  rw [Za (by rw [Bb]; exact h2)] at e2
  rw [List.getElem_set_ne hi, e2]
  by_cases hm : i ∈ o
  ·rw [if_pos hm, if_pos (Qgk.2 (.inl hm)), Qjd, if_pos hm]
  ·rw [if_neg hm, if_neg (fun hc => by
    rcases Qgk.1 hc with hc | hc
    ·exact hm hc
    ·exact hi (Qgo.1 hc).symm)]
theorem keep_l1 (K : Nat) (go : Int → Qb → (List Int) → (List Int) → Option Qb) (x4 : Int) (ms : List Qc) (t : Qb) (n : Nat) (hm : ∀ m ∈ ms, m.To < n) (hl : ms.length ≤ 100000) : ∀ (q k j : Nat) (o : List Nat), ms.length - j = q → q < k → o.length ≤ 1000 + j →
  Ym K go k x4 ms (ms.length : Int) (j : Int) t (Eu n o) (Jk o) = go (IntKind.i64.wrap (x4 + 1)) t (Eu n ((ms.drop j).foldl addO o)) (Jk ((ms.drop j).foldl addO o)) := by
 intro q
 induction q with
 | zero =>
  intro k j o hq hk ho
  obtain ⟨k, rfl⟩ := Qjp k (by omega)
  rw [Ym]
  dsimp only
  rw [Qgr (by omega), cF, Qg1 (by omega)]
  rfl
 | succ q ih =>
  intro k j o hq hk ho
  obtain ⟨k, rfl⟩ := Qjp k (by omega)
  have hj : j < ms.length := by omega
  have hto := hm _ (Qgm hj)
  have hw := Pm (n := j) (by omega)
  have hlt : (j : Int) < (ms.length : Int) := by omega
  have hcl : (Jk o).length = o.length := by rw [Jk, Qgn]
  rw [Ym]
  dsimp only
  rw [Qgu hlt, cT, Ze hj, bS, Qgt hj, Qhz, hw]
  generalize ms[j] = m at *
  by_cases h0 : m.To ≥ 0
  ·obtain ⟨x, hx⟩ : ∃ x : Nat, m.To = (x : Int) := ⟨m.To.toNat, by omega⟩
   have hxn : x < n := by omega
   have hg : Yw (Eu n o) m.To = some (if x ∈ o then (o.idxOf x : Int) else -1) := by
    rw [hx, Ze (by rw [Bb]; exact hxn), ← Za (d := -1) (by rw [Bb]; exact hxn), Tz hxn]
   rw [Qgu h0, cT, hg, bS]
   by_cases hmem : x ∈ o
   ·have ha : addO o m = o := by rw [addO, if_neg (by rw [hx, Qgp]; exact fun h => h.2 hmem)]
    rw [if_pos hmem, Qgr (by omega), cF, ha]
    exact ih k (j + 1) o (by omega) (by omega) (by omega)
   ·have ha : addO o m = o ++ [x] := by rw [addO, hx, Qgp, if_pos ⟨by omega, hmem⟩]
    rw [if_neg hmem, Qgu (by omega), cT, Yp (Z3.2 ⟨by simp only [maxLen, Qgs]; omega, by simp only [Qgs]; omega⟩), hcl, hx, Qgp, keepT_snoc hxn hmem, ha]
    have := ih k (j + 1) (o ++ [x]) (by omega) (by omega) (by rw [Qgl, Qgs]; omega)
    rw [← this]
    simp [Jk]
  ·have ha : addO o m = o := by rw [addO, if_neg (fun h => h0 h.1)]
   rw [Qgr h0, cF, ha]
   exact ih k (j + 1) o (by omega) (by omega) (by omega)
theorem keep_l2 (K : Nat) (f : Zg) (many : Int) (cs : List Zs) (S : List Qa) (r : List Nat) (hr : ∀ x ∈ r, x < S.length) (hrl : r.length ≤ 256) : ∀ (q k i : Nat) (X : List Qa), r.length - i = q → q < k → X.length = i → i ≤ r.length →
  Xv K k (r.length : Int) (i : Int) f many cs S X (Jk r) = some ⟨⟨⟨f, many⟩, cs, X ++ (r.drop i).map (stA S)⟩⟩ := by
 intro q
 induction q with
 | zero =>
  intro k i X hq hk hX hi
  obtain ⟨k, rfl⟩ := Qjp k (by omega)
  rw [Xv]
  dsimp only
  rw [Qgr (by omega), cF, Qg1 (by omega), Qiz, Qhc]
 | succ q ih =>
  intro k i X hq hk hX hi
  obtain ⟨k, rfl⟩ := Qjp k (by omega)
  have hil : i < r.length := by omega
  have hlt : (i : Int) < (r.length : Int) := by omega
  have hx := hr _ (Qgm hil)
  have hg : Yw (Jk r) (i : Int) = some (r[i] : Int) := by
   rw [Ze (by rw [Jk, Qgn]; exact hil)]
   simp [Jk]
  rw [Xv]
  dsimp only
  rw [Qgu hlt, cT, hg, bS, Ze hx, bS, Yp (Z3.2 ⟨by simp only [maxLen, Qgs]; omega, by simp only [Qgs]; omega⟩), Pm (n := i) (by omega), ih k (i + 1) _ (by omega) (by omega) (by rw [Qgl, Qgs]; omega) (by omega), Qgt hil, Qhb, Ww hx, Qgj]
  rfl
theorem keep_l0 (K : Nat) (hK : 10000 ≤ K) {a : Qm} (h : RQ a) : ∀ (k' k i : Nat) (o : List Nat), k' ≤ k → o.Nodup → (∀ x ∈ o, x < a.States.length) → i ≤ o.length → a.States.length < k' + i → (bfs a.States k' i o).length ≤ 256 → (∀ x ∈ bfs a.States k' i o, x < a.States.length) →
  Yy K k (i : Int) ⟨a⟩ (Eu a.States.length o) (Jk o) = some ⟨withS a ((bfs a.States k' i o).map fun q => Ov (Eu a.States.length (bfs a.States k' i o)) (stA a.States q))⟩ := by
 intro k'
 induction k' with
 | zero =>
  intro k i o _ h1 h2 h3 h4
  have := Tf o (List.range a.States.length) h1 fun x hx => Qh8.2 (h2 x hx)
  rw [Qhi] at this
  omega
 | succ k' ih =>
  intro k i o hk h1 h2 h3 h4 h5 h6
  obtain ⟨k, rfl⟩ := Qjp k (by omega)
  have hn := h.n2
  have hol := Tf o (List.range a.States.length) h1 fun x hx => Qh8.2 (h2 x hx)
  rw [Qhi] at hol
  have hcl : (Jk o).length = o.length := by rw [Jk, Qgn]
  rw [Yy]
  rw [bfs] at h5 h6 ⊢
  dsimp only
  rw [hcl]
  by_cases hi : i < o.length
  ·rw [if_pos hi] at h5 h6 ⊢
   have hx := h2 _ (Qgm hi)
   have hg : Yw (Jk o) (i : Int) = some (o[i] : Int) := by
    rw [Ze (by rw [hcl]; exact hi)]
    simp [Jk]
   have hsm := h.small (Qgm hx)
   have hfl := hsm.flat
   have hmv : mvs a.States o[i] = (a.States[o[i]]).Next.flatten := by rw [mvs, Ww hx]
   have hto : ∀ m ∈ mvs a.States o[i], m.To < a.States.length := h.toOk _ hx
   rw [Za hi] at h5 h6 ⊢
   rw [Qgu (by omega), cT, hg, bS, Ze hx, bS, moves_eq K _ (by have := hsm.next; omega) (by have := hsm.next; omega) (by omega), bS, ← hmv]
   have := keep_l1 K (Yy K k) (i : Int) (mvs a.States o[i]) ⟨a⟩ a.States.length hto (by rw [hmv]; omega) (mvs a.States o[i]).length K 0 o rfl (by rw [hmv]; omega) (by omega)
   rw [Qg5, Qhj, Pm (n := i) (by omega)] at this
   rw [this]
   refine ih k (i + 1) _ (by omega) (Qf0 _ _ h1) (fun x hx' => ?_) ?_ (by omega) h5 h6
   ·rcases (foldO_mem _ _ _).1 hx' with h' | ⟨m, hm, h0, rfl⟩
    ·exact h2 x h'
    ·have := hto m hm; omega
   ·obtain ⟨t, ht⟩ := foldO_pre (mvs a.States o[i]) o
    rw [ht, Qgl]; omega
  ·rw [if_neg hi] at h5 h6 ⊢
   rw [Qgr (by omega), cF, send_of (by omega) h (Bb _ _), bS]
   dsimp only [withS]
   have := keep_l2 K a.Split.Of a.Split.Many a.Counts (Ef (Eu a.States.length o) a.States) o (fun x hx => by rw [Hu]; exact h2 x hx) (by omega) o.length K 0 [] rfl (by omega) rfl (Qgx _)
   rw [Qg5, Qhj, Qgw] at this
   rw [this]
   congr 4
   exact funext fun x => Tm _ _ _
theorem repeat_l1 (K : Nat) (n : Nat) (hn : n ≤ 256) : ∀ (q k i : Nat), n - i = q → q < k → 1 ≤ i → i ≤ n → Vs K k (i : Int) (List.replicate i (-1 : Int) ++ List.replicate (n - i) 0) = some (List.replicate n (-1)) := by
 intro q
 induction q using Nat.strongRecOn with
 | ind q ih =>
  intro k i hq hk h1 h2
  obtain ⟨k, rfl⟩ := Qjp k (by omega)
  have hl : (List.replicate i (-1 : Int) ++ List.replicate (n - i) 0).length = n := by simp; omega
  rw [Vs]
  dsimp only
  rw [hl, Qgp]
  by_cases hi : i < n
  ·have e : IntKind.i64.wrap ((i : Int) + ((min i (n - i) : Nat) : Int)) = ((i + min i (n - i) : Nat) : Int) := by rw [w64 (by omega) (by omega)]; omega
   rw [Qgu (by omega), cT, Yp ⟨by omega, by omega⟩, Yp ⟨by omega, by omega⟩, e]
   have hih := ih (n - (i + min i (n - i))) (by omega) k (i + min i (n - i)) rfl (by omega) (by omega) (by omega)
   rw [← hih]
   congr 1
   have e1 : (List.replicate i (-1 : Int) ++ List.replicate (n - i) 0).take i = List.replicate i (-1) := by
    rw [Qh9 (by simp), Qhs (by simp)]
   have e2 : (List.replicate i (-1 : Int) ++ List.replicate (n - i) 0).take (min i (n - i)) = List.replicate (min i (n - i)) (-1) := by
    rw [Qh9 (by simp; omega), List.take_replicate]
    congr 1; omega
   have e3 : (List.replicate i (-1 : Int) ++ List.replicate (n - i) 0).drop (i + min i (n - i)) = List.replicate (n - (i + min i (n - i))) 0 := by
    rw [List.drop_append, Qi5 (by simp), Qgw, List.drop_replicate]
    congr 1; simp; omega
   rw [e1, e2, e3, List.replicate_append_replicate]
  ·have : n = i := by omega
   subst this
   rw [Qgr (by omega), cF]
   simp
theorem mul_ok : ∀ n : _root_.Fin 257, Qdj 0 (IntKind.u64.wrap 1) (IntKind.u64.wrap ((n.val : Nat) : Int)) = some (0, ((n.val : Nat) : Int)) := by decide +kernel
theorem repeat_ok (K : Nat) (n : Nat) (h1 : 1 ≤ n) (hn : n ≤ 256) (hK : 1000 ≤ K) : Wx K [(-1 : Int)] (n : Int) = some (List.replicate n (-1)) := by
 have hm : Qdj K (IntKind.u64.wrap (([(-1 : Int)].length : Nat) : Int)) (IntKind.u64.wrap (n : Int)) = some (0, (n : Int)) := mul_ok ⟨n, by omega⟩
 rw [Wx, Qgr (by omega), cF, hm, bS]
 dsimp only
 rw [Qgr (by omega), cF, Qgr (by omega), cF, w64 (by omega) (by omega), Yp (by omega), Yp (Z3.2 ⟨by simp only [maxLen]; omega, by omega⟩), Yp ⟨by simp, by simp; omega⟩, Qgp]
 have := repeat_l1 K n hn (n - 1) K 1 rfl (by omega) (by omega) h1
 rw [← this]
 congr 1
 simp
theorem keep_ok {K : Nat} (hK : 10000 ≤ K) {a : Qm} (h : RQ a) : Wt K ⟨a⟩ = some ⟨withS a (Qde a.States)⟩ := by
 have h0 := h.n1
 have hn := h.n2
 have ho := Ex h.toOk (by omega)
 have hol := order_len h.toOk (by omega)
 have := keep_l0 K hK h (a.States.length + 1) K 0 [0] (by omega) (Qix.2 ⟨Qi1, Qiw⟩) (fun x hx => by rw [Qgo.1 hx]; omega) (Qgx _) (by omega) (by rw [X4] at hol; omega) ho.lt
 rw [Wt]
 dsimp only
 rw [repeat_ok K _ h0 hn (by omega), bS]
 have e : Yw (List.replicate a.States.length (-1 : Int)) 0 = some (-1) := by
  have := Ze (l := List.replicate a.States.length (-1 : Int)) (i := 0) (by rw [Qhk]; omega)
  rw [Qiq] at this
  exact this
 have e2 : (List.replicate a.States.length (-1 : Int)).set (Int.toNat 0) 0 = Eu a.States.length [0] := by
  have e3 : List.replicate a.States.length (-1 : Int) = Eu a.States.length [] := by
   refine Qjg (by rw [Bb, Qhk]) fun i h1 h2 => ?_
   simp [Eu]
  rw [e3]
  exact keepT_snoc (o := []) (by omega) Qi1
 rw [e, bS, e2]
 exact this
end Go.Rv
namespace Go.Rv
def itB (n : Int) : List Int := Ms (itoaS n)
def decD : List Int → Int → Int
 | [], v => v
 | c :: l, v => decD l (10 * v + (c - 48))
def decV : List Int → Int
 | [] => 0
 | c :: l => if c = 45 then -(decD l 0) else decD (c :: l) 0
def itOk (n : Int) : Bool := decV (itB n) == n && (itB n).all (fun c => c == 45 || (decide (48 ≤ c) && decide (c ≤ 57))) && decide (1 ≤ (itB n).length) && decide ((itB n).length ≤ 4)
theorem itOk_all : ∀ n : _root_.Fin 601, itOk ((n.val : Int) - 1) = true := by decide +kernel
structure Qco (n : Int) : Prop where
 val : decV (itB n) = n
 dig : ∀ c ∈ itB n, c = 45 ∨ (48 ≤ c ∧ c ≤ 57)
 pos : 1 ≤ (itB n).length
 len : (itB n).length ≤ 4
theorem Oa {n : Int} (h0 : -1 ≤ n) (h1 : n < 600) : Qco n := by
 have := itOk_all ⟨(n + 1).toNat, by omega⟩
 dsimp only at this
 rw [show (((n + 1).toNat : Nat) : Int) - 1 = n by omega, itOk] at this
 simp only [Qhu, Qio, Qih, Qhh, Qjm] at this
 exact ⟨this.1.1.1, this.1.1.2, this.1.2, this.2⟩
def tok (n : Int) : List Int := itB n ++ [32]
def Qfh (l : List Nat) (m : Qc) : List Int := if m.To < 0 then tok (-1) else tok (l.getD m.To.toNat 0 : Int) ++ (m.Ops ++ tok (m.Ops.length : Int))
def Qcx (l : List Nat) (s : Qa) : List Int := tok (s.R.length : Int) ++ ((s.R.map tok).flatten ++ ((s.Rule.map tok).flatten ++ (s.Next.flatten.map (Qfh l)).flatten))
theorem cut_eq {d : Int} : ∀ (A B u v : List Int), d ∉ A → d ∉ B → A ++ d :: u = B ++ d :: v → A = B ∧ u = v := by
 intro A
 induction A with
 | nil =>
  intro B u v _ hB h
  cases B with
  | nil => rw [Qgw, Qgw] at h; exact ⟨rfl, (List.cons.inj h).2⟩
  | cons b B => rw [Qgw, Qhx] at h; exact absurd (Qhl.2 (.inl (List.cons.inj h).1)) hB
 | cons a A ih =>
  intro B u v hA hB h
  cases B with
  | nil => rw [Qgw, Qhx] at h; exact absurd (Qhl.2 (.inl (List.cons.inj h).1.symm)) hA
  | cons b B =>
   rw [Qhx, Qhx] at h
   obtain ⟨h1, h2⟩ := List.cons.inj h
   obtain ⟨h3, h4⟩ := ih B u v (fun h => hA (Qgz _ h)) (fun h => hB (Qgz _ h)) h2
   exact ⟨by rw [h1, h3], h4⟩
theorem it_no {n : Int} (h : Qco n) {d : Int} (hd : d = 32 ∨ d = 58) : d ∉ itB n := fun hm => by
 have := h.dig d hm
 omega
theorem it_inj {a b : Int} (ha : Qco a) (hb : Qco b) (h : itB a = itB b) : a = b := by
 rw [← ha.val, ← hb.val, h]
theorem Qbc {a b : Int} (ha : Qco a) (hb : Qco b) {u v : List Int} (h : tok a ++ u = tok b ++ v) : a = b ∧ u = v := by
 rw [tok, tok, Qgj, Qgj] at h
 obtain ⟨h1, h2⟩ := cut_eq _ _ _ _ (it_no ha (.inl rfl)) (it_no hb (.inl rfl)) h
 exact ⟨it_inj ha hb h1, h2⟩
theorem toks_cut : ∀ (x y : List Int), x.length = y.length → (∀ n ∈ x, Qco n) → (∀ n ∈ y, Qco n) → ∀ (u v : List Int), (x.map tok).flatten ++ u = (y.map tok).flatten ++ v → x = y ∧ u = v := by
 intro x
 induction x with
 | nil =>
  intro y hl _ _ u v h
  cases y with
  | nil => exact ⟨rfl, h⟩
  | cons b y => simp at hl
 | cons a x ih =>
  intro y hl hx hy u v h
  cases y with
  | nil => simp at hl
  | cons b y =>
   simp only [Qhb, Qg7, Qgj] at h
   obtain ⟨h1, h2⟩ := Qbc (hx a Qg4) (hy b Qg4) h
   obtain ⟨h3, h4⟩ := ih y (by simpa using hl) (fun n hn => hx n (Qgz _ hn)) (fun n hn => hy n (Qgz _ hn)) u v h2
   exact ⟨by rw [h1, h3], h4⟩
theorem tok_head {n : Int} (h : Qco n) (u : List Int) : ∃ c t, tok n ++ u = c :: t ∧ 45 ≤ c := by
 have hp := h.pos
 have hd := h.dig
 rw [tok]
 cases hq : itB n with
 | nil => rw [hq] at hp; simp at hp
 | cons c t =>
  rw [hq] at hd
  refine ⟨c, t ++ ([32] ++ u), by simp, ?_⟩
  have := hd c Qg4
  omega
theorem ops_cut : ∀ (O P : List Int), (∀ c ∈ O, c ≤ 3) → (∀ c ∈ P, c ≤ 3) → ∀ (a b : Int), Qco a → Qco b → ∀ u v, O ++ (tok a ++ u) = P ++ (tok b ++ v) → O = P ∧ tok a ++ u = tok b ++ v := by
 intro O
 induction O with
 | nil =>
  intro P _ hP a b ha hb u v h
  cases P with
  | nil => exact ⟨rfl, h⟩
  | cons p P =>
   obtain ⟨c, t, e, hc⟩ := tok_head ha u
   rw [Qgw, e, Qhx] at h
   have h1 := hP p Qg4
   have h2 := (List.cons.inj h).1
   omega
 | cons o O ih =>
  intro P hO hP a b ha hb u v h
  cases P with
  | nil =>
   obtain ⟨c, t, e, hc⟩ := tok_head hb v
   rw [Qgw, e, Qhx] at h
   have h1 := hO o Qg4
   have h2 := (List.cons.inj h).1
   omega
  | cons p P =>
   rw [Qhx, Qhx] at h
   obtain ⟨h1, h2⟩ := List.cons.inj h
   obtain ⟨h3, h4⟩ := ih P (fun c hc => hO c (Qgz _ hc)) (fun c hc => hP c (Qgz _ hc)) a b ha hb u v h2
   exact ⟨by rw [h1, h3], h4⟩
def mvOkL (l : List Nat) (m : Qc) : Prop := (∀ c ∈ m.Ops, 1 ≤ c ∧ c ≤ 3) ∧ m.Ops.length ≤ 3 ∧ l.getD m.To.toNat 0 < 500
theorem mtok_cut {l : List Nat} {m n : Qc} (hm : mvOkL l m) (hn : mvOkL l n) {u v : List Int} (h : Qfh l m ++ u = Qfh l n ++ v) : keyM l m = keyM l n ∧ u = v := by
 obtain ⟨m1, m2, m3⟩ := hm
 obtain ⟨n1, n2, n3⟩ := hn
 have i0 : Qco (-1) := Oa (by omega) (by omega)
 have i1 : Qco (l.getD m.To.toNat 0 : Int) := Oa (by omega) (by omega)
 have i2 : Qco (l.getD n.To.toNat 0 : Int) := Oa (by omega) (by omega)
 rw [Qfh, Qfh] at h
 rw [keyM, keyM]
 by_cases h1 : m.To < 0 <;> by_cases h2 : n.To < 0
 ·rw [if_pos h1, if_pos h2] at h ⊢
  exact ⟨rfl, (Qbc i0 i0 h).2⟩
 ·rw [if_pos h1, if_neg h2, Qgj] at h
  have := (Qbc i0 i2 h).1
  omega
 ·rw [if_neg h1, if_pos h2, Qgj] at h
  have := (Qbc i1 i0 h).1
  omega
 ·rw [if_neg h1, if_neg h2] at h ⊢
  simp only [Qgj] at h
  obtain ⟨g1, g2⟩ := Qbc i1 i2 h
  have j1 : Qco (m.Ops.length : Int) := Oa (by omega) (by omega)
  have j2 : Qco (n.Ops.length : Int) := Oa (by omega) (by omega)
  obtain ⟨g3, g4⟩ := ops_cut _ _ (fun c hc => (m1 c hc).2) (fun c hc => (n1 c hc).2) _ _ j1 j2 _ _ g2
  exact ⟨by rw [g3, show l.getD m.To.toNat 0 = l.getD n.To.toNat 0 by omega], (Qbc j1 j2 g4).2⟩
theorem mtok_of {l : List Nat} {m n : Qc} (h : keyM l m = keyM l n) : Qfh l m = Qfh l n := by
 rw [keyM, keyM] at h
 rw [Qfh, Qfh]
 by_cases h1 : m.To < 0 <;> by_cases h2 : n.To < 0
 ·rw [if_pos h1, if_pos h2]
 ·rw [if_pos h1, if_neg h2] at h; cases h
 ·rw [if_neg h1, if_pos h2] at h; cases h
 ·rw [if_neg h1, if_neg h2] at h ⊢
  simp only [Qg3, Qgq] at h
  rw [h.1, h.2]
theorem mtoks_cut {l : List Nat} : ∀ (x y : List Qc), x.length = y.length → (∀ m ∈ x, mvOkL l m) → (∀ m ∈ y, mvOkL l m) → (x.map (Qfh l)).flatten = (y.map (Qfh l)).flatten → x.map (keyM l) = y.map (keyM l) := by
 intro x
 induction x with
 | nil =>
  intro y hl _ _ h
  cases y with
  | nil => rfl
  | cons b y => simp at hl
 | cons a x ih =>
  intro y hl hx hy h
  cases y with
  | nil => simp at hl
  | cons b y =>
   simp only [Qhb, Qg7] at h ⊢
   obtain ⟨h1, h2⟩ := mtok_cut (hx a Qg4) (hy b Qg4) h
   rw [h1, ih y (by simpa using hl) (fun n hn => hx n (Qgz _ hn)) (fun n hn => hy n (Qgz _ hn)) h2]
theorem mtoks_of {l : List Nat} {x y : List Qc} (h : x.map (keyM l) = y.map (keyM l)) : x.map (Qfh l) = y.map (Qfh l) := by
 have hl : x.length = y.length := by have := congrArg List.length h; simpa using this
 refine Qjg (by simpa using hl) fun k k1 k2 => ?_
 rw [Qhq, Qhq]
 refine mtok_of ?_
 have := congrArg (fun q => q[k]?) h
 rw [Qgn] at k1 k2
 simpa [k1, k2] using this
def keyL (S : List Qa) (l : List Nat) (i : Nat) : List Int := if i = 0 then [102, 105, 114, 115, 116] else itB (l.getD i 0 : Int) ++ 58 :: Qcx l (stA S i)
structure Qeh (a : Qm) (l : List Nat) : Prop where
 len : l.length = a.States.length
 lt : ∀ x ∈ l, x < 500
theorem Qeh.get {a : Qm} {l : List Nat} (h : Qeh a l) (i : Nat) : l.getD i 0 < 500 := by
 by_cases hi : i < l.length
 ·rw [Za hi]; exact h.lt _ (Qgm hi)
 ·rw [getD_far (by omega)]; omega
theorem RQ.mvL {a : Qm} (h : RQ a) {l : List Nat} (hl : Qeh a l) {i : Nat} (hi : i < a.States.length) : ∀ m ∈ Go.Rv.mvs a.States i, mvOkL l m := fun m hm => by
 have hs := h.small (Qgm hi)
 have hq := h.mvs hi hm
 rw [Go.Rv.mvs, Ww hi] at hm
 obtain ⟨r, hr, hm'⟩ := Qir.1 hm
 refine ⟨fun c hc => ?_, hs.ops r hr m hm', hl.get _⟩
 rcases hq with ⟨_, h2⟩ | ⟨_, _, _, h4⟩
 ·rw [h2] at hc; cases hc
 ·obtain ⟨j, hj, rfl⟩ := Qhg hc
  exact ⟨(h4 j hj).1, (h4 j hj).2.1⟩
theorem risesF_mem {below : Int} : ∀ (l : List Int) (last : Int), Ow below last l = true → ∀ x ∈ l, last < x ∧ x < below := by
 intro l
 induction l with
 | nil => intro last _ x hx; cases hx
 | cons n l ih =>
  intro last h x hx
  simp only [Ow, Qhu, Bool.not_eq_true', decide_eq_false_iff_not] at h
  rcases Qhl.1 hx with rfl | hx
  ·omega
  ·have := ih n h.2.2 x hx; omega
theorem StQ.rIt {n : Nat} {many : Int} {S : List Qa} {s : Qa} (h : StQ n many S s) (hn : n ≤ 512) : ∀ x ∈ s.R, Qco x := fun x hx => by
 have := risesF_mem s.R (-1) h.r x hx
 exact Oa (by omega) (by omega)
theorem StQ.ruleIt {n : Nat} {many : Int} {S : List Qa} {s : Qa} (h : StQ n many S s) : ∀ x ∈ s.Rule, Qco x := fun x hx => by
 have := h.rule x hx
 exact Oa (by omega) (by omega)
theorem sum_const : ∀ (l : List Nat) (c : Nat), (∀ x ∈ l, x = c) → l.sum = l.length * c := by
 intro l
 induction l with
 | nil => intro c _; simp
 | cons x l ih =>
  intro c h
  rw [List.sum_cons, ih c fun y hy => h y (Qgz _ hy), h x Qg4, Qgy, Qhy]
  omega
theorem StQ.mvsLen {n : Nat} {many : Int} {S : List Qa} {s t : Qa} (hs : StQ n many S s) (ht : StQ n many S t) (hr : s.R.length = t.R.length) : s.Rule.length = t.Rule.length ∧ s.Next.length = t.Next.length ∧ s.Next.flatten.length = t.Next.flatten.length := by
 have e1 := hs.rl
 have e2 := ht.rl
 have e3 := hs.nl
 have e4 := ht.nl
 rw [hr] at e1 e3
 have f : ∀ u : Qa, StQ n many S u → u.Next.flatten.length = u.Next.length * many.toNat := fun u hu => by
  have := sum_const (u.Next.map List.length) many.toNat fun x hx => by
   obtain ⟨r, hr, rfl⟩ := Qhe.1 hx
   have := hu.row r hr
   omega
  rw [List.length_flatten, this, Qgn]
 have e5 : s.Next.length = t.Next.length := by omega
 exact ⟨by omega, e5, by rw [f s hs, f t ht, e5]⟩
theorem sign_cut {a : Qm} (h : RQ a) {l : List Nat} (hl : Qeh a l) {i j : Nat} (hi : i < a.States.length) (hj : j < a.States.length) (he : Qcx l (stA a.States i) = Qcx l (stA a.States j)) : (stA a.States i).R = (stA a.States j).R ∧ (stA a.States i).Rule = (stA a.States j).Rule ∧ (mvs a.States i).map (keyM l) = (mvs a.States j).map (keyM l) := by
 have gi := h.st _ (Qgm hi)
 have gj := h.st _ (Qgm hj)
 have si := h.small (Qgm hi)
 have sj := h.small (Qgm hj)
 have mi := h.mvL hl hi
 have mj := h.mvL hl hj
 rw [mvs] at mi mj
 rw [mvs, mvs]
 rw [← Ww hi] at gi si
 rw [← Ww hj] at gj sj
 have ri := si.r
 have rj := sj.r
 have hcl := h.cl
 rw [Qcx, Qcx] at he
 obtain ⟨h1, h2⟩ := Qbc (Oa (by omega) (by omega)) (Oa (by omega) (by omega)) he
 have hr : (stA a.States i).R.length = (stA a.States j).R.length := by omega
 obtain ⟨l1, l2, l3⟩ := gi.mvsLen gj hr
 obtain ⟨h3, h4⟩ := toks_cut _ _ hr (gi.rIt hcl) (gj.rIt hcl) _ _ h2
 obtain ⟨h5, h6⟩ := toks_cut _ _ l1 gi.ruleIt gj.ruleIt _ _ h4
 exact ⟨h3, h5, mtoks_cut _ _ l3 mi mj h6⟩
theorem keyL_eq {a : Qm} (h : RQ a) {l : List Nat} (hl : Qeh a l) {i j : Nat} (hi : i < a.States.length) (hj : j < a.States.length) : keyL a.States l i = keyL a.States l j ↔ keyS a.States l i = keyS a.States l j := by
 have oi : Qco (l.getD i 0 : Int) := Oa (by omega) (by have := hl.get i; omega)
 have oj : Qco (l.getD j 0 : Int) := Oa (by omega) (by have := hl.get j; omega)
 have hne : ∀ {n : Int} (u : List Int), Qco n → ([102, 105, 114, 115, 116] : List Int) ≠ itB n ++ 58 :: u := fun {n} u hn he => by
  have hp := hn.pos
  have hd := hn.dig
  cases hq : itB n with
  | nil => rw [hq] at hp; simp at hp
  | cons c t =>
   rw [hq] at hd he
   have h1 := hd c Qg4
   have h2 := (List.cons.inj he).1
   omega
 rw [keyL, keyL, keyS, keyS]
 by_cases h1 : i = 0 <;> by_cases h2 : j = 0
 ·rw [if_pos h1, if_pos h2, if_pos h1, if_pos h2]; simp
 ·rw [if_pos h1, if_neg h2, if_pos h1, if_neg h2]
  exact ⟨fun he => absurd he (hne _ oj), fun he => by cases he⟩
 ·rw [if_neg h1, if_pos h2, if_neg h1, if_pos h2]
  exact ⟨fun he => absurd he.symm (hne _ oi), fun he => by cases he⟩
 ·rw [if_neg h1, if_neg h2, if_neg h1, if_neg h2]
  simp only [Qg3, Qgq]
  constructor
  ·intro he
   obtain ⟨g1, g2⟩ := cut_eq _ _ _ _ (it_no oi (.inr rfl)) (it_no oj (.inr rfl)) he
   have g3 := it_inj oi oj g1
   exact ⟨by omega, sign_cut h hl hi hj g2⟩
  ·rintro ⟨g1, g2, g3, g4⟩
   have g5 := mtoks_of g4
   rw [mvs, mvs] at g5
   rw [g1, Qcx, Qcx, g2, g3, g5]
end Go.Rv
namespace Go.Rv
theorem ba_beq (a b : ByteArray) : (a == b) = decide (a = b) := by
 cases a with | mk a => cases b with | mk b =>
 show (a == b) = _
 rw [Bool.eq_iff_iff, Qih, Qio]
 constructor
 ·rintro rfl; rfl
 ·intro h; cases h; rfl
instance : LawfulBEq ByteArray where
 eq_of_beq {a b} h := by rw [ba_beq] at h; exact of_decide_eq_true h
 rfl {a} := by rw [ba_beq]; exact Qgu rfl
theorem Qd9 (a b : ByteArray) : Ms (a ++ b) = Ms a ++ Ms b := by
 simp only [Ms, ByteArray.data_append, Qii, Qhr]
theorem bytesI_of {xs : List Int} (h : He xs = true) : Ms (ofBytes xs) = xs := by
 obtain ⟨l, rfl⟩ := okBytes_of h
 rw [Qem]
 rfl
theorem bytesI_inj {a b : ByteArray} (h : Ms a = Ms b) : a = b := by
 have h1 : a.data.toList = b.data.toList := (List.map_inj_right (fun x y (e : ((x.toNat : Nat) : Int) = (y.toNat : Nat)) => UInt8.toNat_inj.1 (by omega))).1 h
 cases a with | mk a => cases b with | mk b =>
 have h2 : a = b := Array.ext' h1
 rw [h2]
theorem Qel {a b : List Int} (ha : He a = true) (hb : He b = true) : He (a ++ b) = true := by
 rw [He, List.all_append, Qhu]
 exact ⟨ha, hb⟩
theorem ok_of {a : List Int} (h : ∀ c ∈ a, 0 ≤ c ∧ c < 256) : He a = true := by
 rw [He, Qhh]
 intro c hc
 obtain ⟨h1, h2⟩ := h c hc
 rw [Qgu h1, Qgu h2]
 rfl
theorem Qfp {n : Int} (h : Qco n) : He (tok n) = true := by
 refine ok_of fun c hc => ?_
 rcases Qgk.1 hc with hc | hc
 ·have := h.dig c hc; omega
 ·rw [Qgo.1 hc]; omega
theorem Pq {n : Int} (h : Qco n) : (tok n).length ≤ 5 := by
 have := h.len
 rw [tok, Qgl, Qgs]; omega
theorem it_size {n : Int} (h : Qco n) : (itoaS n).size ≤ 4 := by
 have := h.len
 rw [itB, Qd8] at this
 exact this
theorem put1 {K : Nat} {n : Int} (h0 : -1 ≤ n) (h1 : n < 600) {acc : List Int} (hl : acc.length ≤ 1000000) : Uc K n acc = some (acc ++ tok n) := by
 have hs := it_size (Oa h0 h1)
 have e : Ms (⟨#[32]⟩ : ByteArray) = [32] := rfl
 have hsz : (itoaS n ++ (⟨#[32]⟩ : ByteArray)).size ≤ 5 := by rw [ByteArray.size_append]; show (itoaS n).size + 1 ≤ 5; omega
 rw [Uc, strconv_Itoa, if_pos (by omega), bS, Yp (by show (itoaS n).size + 1 ≤ 9223372036854775807; omega), X3, Yi, bS, Yp (Z3.2 ⟨by simp only [maxLen]; omega, by omega⟩), bS]
 dsimp only
 rw [Qd9, e]
 rfl
theorem put0 {K : Nat} {n : Int} (h0 : -1 ≤ n) (h1 : n < 600) : Po K n [] = some (tok n) := put1 (acc := []) h0 h1 (by simp)
theorem mtok_ok {l : List Nat} {m : Qc} (h : mvOkL l m) : He (Qfh l m) = true ∧ (Qfh l m).length ≤ 13 := by
 obtain ⟨h1, h2, h3⟩ := h
 have i0 : Qco (-1) := Oa (by omega) (by omega)
 have i1 : Qco (l.getD m.To.toNat 0 : Int) := Oa (by omega) (by omega)
 have j1 : Qco (m.Ops.length : Int) := Oa (by omega) (by omega)
 rw [Qfh]
 split
 ·exact ⟨Qfp i0, by have := Pq i0; omega⟩
 ·refine ⟨Qel (Qfp i1) (Qel (ok_of fun c hc => by have := h1 c hc; omega) (Qfp j1)), ?_⟩
  have := Pq i1
  have := Pq j1
  rw [Qgl, Qgl]; omega
theorem Qf3 {l : List Nat} {i : Nat} (h : i < l.length) : Yw (Jk l) (i : Int) = some ((l.getD i 0 : Nat) : Int) := by
 rw [Ze (by rw [Jk, Qgn]; exact h), Za h]
 simp [Jk]
theorem sign_l2 (K : Nat) (l : List Nat) (ms : List Qc) (hl : ms.length ≤ 7000) (hm : ∀ m ∈ ms, mvOkL l m ∧ m.To < l.length) : ∀ (q k j : Nat) (acc : List Int), ms.length - j = q → q < k → 0 < acc.length → acc.length ≤ 1000 + 13 * j → He acc = true →
  Hm K k ms (ms.length : Int) (j : Int) (Jk l) acc = some (ofBytes (acc ++ ((ms.drop j).map (Qfh l)).flatten)) := by
 intro q
 induction q with
 | zero =>
  intro k j acc hq hk h0 h1 h2
  obtain ⟨k, rfl⟩ := Qjp k (by omega)
  rw [Hm]
  dsimp only
  rw [Qgr (by omega), cF, Qg1 (by omega), Yp h0, Yp h2, Qiz, List.flatten_nil, Qhc]
 | succ q ih =>
  intro k j acc hq hk h0 h1 h2
  obtain ⟨k, rfl⟩ := Qjp k (by omega)
  have hj : j < ms.length := by omega
  obtain ⟨hmv, hto⟩ := hm _ (Qgm hj)
  have hw := Pm (n := j) (by omega)
  have hlt : (j : Int) < (ms.length : Int) := by omega
  obtain ⟨o1, o2⟩ := mtok_ok hmv
  have hih := ih k (j + 1) (acc ++ Qfh l ms[j]) (by omega) (by omega) (by rw [Qgl]; omega) (by rw [Qgl]; omega) (Qel h2 o1)
  rw [Hm]
  dsimp only
  rw [Qgu hlt, cT, Ze hj, bS, Qgt hj, Qhb, Qg7, ← Qgj, ← hih, hw]
  generalize ms[j] = m at *
  obtain ⟨g1, g2, g3⟩ := hmv
  by_cases h3 : m.To < 0
  ·rw [Qgu h3, cT, put1 (by omega) (by omega) (by omega), bS, Qfh, if_pos h3]
  ·obtain ⟨x, hx⟩ : ∃ x : Nat, m.To = (x : Int) := ⟨m.To.toNat, by omega⟩
   have hl1 := Pq (Oa (n := (l.getD x 0 : Int)) (by omega) (by rw [hx, Qgp] at g3; omega))
   have hx2 : l.getD x 0 < 500 := by rw [hx, Qgp] at g3; exact g3
   rw [Qgr h3, cF, Qfh, if_neg h3, hx, Qgp, Qf3 (by omega), bS, put1 (by omega) (by omega) (by omega), bS, Jw, Yi, bS, Yp (Z3.2 ⟨by simp only [maxLen, Qgl]; omega, by simp only [Qgl]; omega⟩), bS]
   dsimp only
   rw [put1 (by omega) (by omega) (by simp only [Qgl]; omega), bS]
   simp only [Qgj]
theorem sign_l1 (K : Nat) (l : List Nat) (s : Qa) (hs : T9 s) (hK : 10000 ≤ K) (hr : ∀ x ∈ s.Rule, -1 ≤ x ∧ x < 600) (hm : ∀ m ∈ s.Next.flatten, mvOkL l m ∧ m.To < l.length) : ∀ (q k j : Nat) (acc : List Int), s.Rule.length - j = q → q < k → 0 < acc.length → acc.length ≤ 100 + 5 * j → j ≤ s.Rule.length → He acc = true →
  Lb K k s (s.Rule.length : Int) (j : Int) (Jk l) acc = some (ofBytes (acc ++ (((s.Rule.drop j).map tok).flatten ++ (s.Next.flatten.map (Qfh l)).flatten))) := by
 have hn := hs.next
 have hf := hs.flat
 have hrl := hs.rule
 intro q
 induction q with
 | zero =>
  intro k j acc hq hk h0 h1 hj h2
  obtain ⟨k, rfl⟩ := Qjp k (by omega)
  rw [Lb]
  dsimp only
  have := sign_l2 K l s.Next.flatten (by omega) hm s.Next.flatten.length K 0 acc rfl (by omega) h0 (by omega) h2
  rw [Qg5, Qhj] at this
  rw [Qgr (by omega), cF, Qg1 (by omega), moves_eq K s (by omega) (by omega) (by omega), bS, this, Qiz, List.flatten_nil, Qgw]
 | succ q ih =>
  intro k j acc hq hk h0 h1 hjl h2
  obtain ⟨k, rfl⟩ := Qjp k (by omega)
  have hj : j < s.Rule.length := by omega
  obtain ⟨g1, g2⟩ := hr _ (Qgm hj)
  have hlt : (j : Int) < (s.Rule.length : Int) := by omega
  have hit := Oa g1 g2
  have := Pq hit
  rw [Lb]
  dsimp only
  rw [Qgu hlt, cT, Ze hj, bS, put1 g1 g2 (by omega), bS, Pm (n := j) (by omega), ih k (j + 1) _ (by omega) (by omega) (by rw [Qgl]; omega) (by rw [Qgl]; omega) (by omega) (Qel h2 (Qfp hit)), Qgt hj, Qhb, Qg7]
  simp only [Qgj]
theorem sign_l0 (K : Nat) (l : List Nat) (s : Qa) (hs : T9 s) (hK : 10000 ≤ K) (hR : ∀ x ∈ s.R, -1 ≤ x ∧ x < 600) (hr : ∀ x ∈ s.Rule, -1 ≤ x ∧ x < 600) (hm : ∀ m ∈ s.Next.flatten, mvOkL l m ∧ m.To < l.length) : ∀ (q k j : Nat) (acc : List Int), s.R.length - j = q → q < k → 0 < acc.length → acc.length ≤ 5 + 5 * j → j ≤ s.R.length → He acc = true →
  Lc K k s (s.R.length : Int) (j : Int) (Jk l) acc = some (ofBytes (acc ++ (((s.R.drop j).map tok).flatten ++ ((s.Rule.map tok).flatten ++ (s.Next.flatten.map (Qfh l)).flatten)))) := by
 have hn := hs.r
 have hrl := hs.rule
 intro q
 induction q with
 | zero =>
  intro k j acc hq hk h0 h1 hj h2
  obtain ⟨k, rfl⟩ := Qjp k (by omega)
  rw [Lc]
  dsimp only
  have := sign_l1 K l s hs hK hr hm s.Rule.length K 0 acc rfl (by omega) h0 (by omega) (by omega) h2
  rw [Qg5, Qhj] at this
  rw [Qgr (by omega), cF, Qg1 (by omega), this, Qiz, List.flatten_nil, Qgw]
 | succ q ih =>
  intro k j acc hq hk h0 h1 hjl h2
  obtain ⟨k, rfl⟩ := Qjp k (by omega)
  have hj : j < s.R.length := by omega
  obtain ⟨g1, g2⟩ := hR _ (Qgm hj)
  have hlt : (j : Int) < (s.R.length : Int) := by omega
  have hit := Oa g1 g2
  have := Pq hit
  rw [Lc]
  dsimp only
  rw [Qgu hlt, cT, Ze hj, bS, put1 g1 g2 (by omega), bS, Pm (n := j) (by omega), ih k (j + 1) _ (by omega) (by omega) (by rw [Qgl]; omega) (by rw [Qgl]; omega) (by omega) (Qel h2 (Qfp hit)), Qgt hj, Qhb, Qg7]
  simp only [Qgj]
theorem sign_ok {K : Nat} (hK : 10000 ≤ K) {a : Qm} (h : RQ a) {l : List Nat} (hl : Qeh a l) {i : Nat} (hi : i < a.States.length) : Ta K a.States[i] (Jk l) = some (ofBytes (Qcx l (stA a.States i))) := by
 have hs := h.small (Qgm hi)
 have hq := h.st _ (Qgm hi)
 have hm := h.mvL hl hi
 have hto := h.toOk i hi
 have hr := hs.r
 have hcl := h.cl
 rw [mvs, Ww hi] at hm
 rw [mvs, Ww hi] at hto
 have i0 : Qco (a.States[i].R.length : Int) := Oa (by omega) (by omega)
 have := sign_l0 K l a.States[i] hs hK (fun x hx => by have := risesF_mem _ (-1) hq.r x hx; omega) (fun x hx => by have := hq.rule x hx; omega) (fun m hm' => ⟨hm m hm', by rw [hl.len]; exact hto m hm'⟩) a.States[i].R.length K 0 (tok (a.States[i].R.length : Int)) rfl (by omega) (by rw [tok, Qgl, Qgs]; omega) (Pq i0) (Qgx _) (Qfp i0)
 rw [Qg5, Qhj] at this
 rw [Ta, put0 (by omega) (by omega), bS, this, Qcx, Ww hi]
def Qdd (U : List ByteArray) : List (ByteArray × Int) := (U.zipIdx).map fun p => (p.1, (p.2 : Int))
theorem Qfx (U : List ByteArray) (k : ByteArray) : Qdd (U ++ [k]) = Qdd U ++ [(k, (U.length : Int))] := by
 simp [Qdd, List.zipIdx_append]
theorem knownM_len (U : List ByteArray) : (Qdd U).length = U.length := by simp [Qdd]
theorem lookup_app {α β : Type} [BEq α] [LawfulBEq α] (x : α) : ∀ (A B : List (α × β)), (A ++ B).lookup x = (A.lookup x).or (B.lookup x) := by
 intro A
 induction A with
 | nil => intro B; rfl
 | cons p A ih =>
  intro B
  rw [Qhx, Qhn, Qhn]
  cases x == p.1 with
  | true => rfl
  | false => exact ih B
def posK {κ : Type} [DecidableEq κ] (U : List κ) (x : κ) : Nat := U.idxOf x
theorem posK_in {κ : Type} [DecidableEq κ] {V W : List κ} {x : κ} (h : x ∈ V) : posK (V ++ W) x = posK V x := by rw [posK, posK, Qjd, if_pos h]
theorem posK_new {κ : Type} [DecidableEq κ] {V : List κ} {x : κ} (h : x ∉ V) : posK (V ++ [x]) x = V.length := by rw [posK, Qjd, if_neg h]; simp
theorem posK_lt {κ : Type} [DecidableEq κ] {U : List κ} {x : κ} (h : x ∈ U) : posK U x < U.length := Qht.2 h
theorem dealF_cons {κ : Type} [DecidableEq κ] (U : List κ) (k : κ) (l : List κ) : Oc U (k :: l) = posK (Qdm U k) k :: Oc (Qdm U k) l := rfl
theorem look_rev (x : ByteArray) : ∀ (q : Nat) (U : List ByteArray), U.length = q → (Qdd U).lookup x = if x ∈ U then some ((posK U x : Nat) : Int) else none := by
 intro q
 induction q with
 | zero => intro U hU; rw [Qin.1 hU]; rfl
 | succ q ih =>
  intro U hU
  rcases List.eq_nil_or_concat U with rfl | ⟨V, k, rfl⟩
  ·simp at hU
  ·rw [List.concat_eq_append] at hU ⊢
   rw [Qfx, lookup_app, ih V (by simpa using hU)]
   by_cases hx : x ∈ V
   ·rw [if_pos hx, if_pos (Qgk.2 (.inl hx)), posK_in hx]
    rfl
   ·rw [if_neg hx, Option.none_or, Qhn]
    by_cases hk : x = k
    ·subst hk
     rw [if_pos (Qgk.2 (.inr (Qgo.2 rfl))), Qis, posK_new hx]
    ·rw [if_neg (fun hc => by
      rcases Qgk.1 hc with hc | hc
      ·exact hx hc
      ·exact hk (Qgo.1 hc)), Qg6.2 hk]
     rfl
theorem look (x : ByteArray) (U : List ByteArray) : (Qdd U).lookup x = if x ∈ U then some ((posK U x : Nat) : Int) else none := look_rev x U.length U rfl
def Qfi (S : List Qa) (l : List Nat) (i : Nat) : ByteArray := if i = 0 then ⟨#[102, 105, 114, 115, 116]⟩ else (itoaS (l.getD i 0 : Int) ++ (⟨#[58]⟩ : ByteArray)) ++ ofBytes (Qcx l (stA S i))
def Ea (S : List Qa) (l : List Nat) : List ByteArray := (List.range S.length).map (Qfi S l)
theorem sign_bytes {a : Qm} (h : RQ a) {l : List Nat} (hl : Qeh a l) {i : Nat} (hi : i < a.States.length) : He (Qcx l (stA a.States i)) = true ∧ (Qcx l (stA a.States i)).length ≤ 100000 := by
 have hs := h.small (Qgm hi)
 have hq := h.st _ (Qgm hi)
 have hm := h.mvL hl hi
 rw [mvs] at hm
 rw [← Ww hi] at hs hq
 have hr := hs.r
 have hrl := hs.rule
 have hcl := h.cl
 have hfl := hs.flat
 have i0 : Qco ((stA a.States i).R.length : Int) := Oa (by omega) (by omega)
 have f : ∀ (xs : List Int), (∀ x ∈ xs, Qco x) → He (xs.map tok).flatten = true ∧ (xs.map tok).flatten.length ≤ xs.length * 5 := fun xs hx => by
  refine ⟨ok_of fun c hc => ?_, ?_⟩
  ·obtain ⟨r, hr, hc⟩ := Qir.1 hc
   obtain ⟨x, hx', rfl⟩ := Qhe.1 hr
   rcases Qgk.1 hc with hc | hc
   ·have := (hx x hx').dig c hc; omega
   ·rw [Qgo.1 hc]; omega
  ·have := rows_len (xs.map tok) (c := 5) fun r hr => by
    obtain ⟨x, hx', rfl⟩ := Qhe.1 hr
    exact Pq (hx x hx')
   rw [Qgn] at this
   exact this
 obtain ⟨a1, a2⟩ := f _ (hq.rIt hcl)
 obtain ⟨b1, b2⟩ := f _ hq.ruleIt
 have c1 : He ((stA a.States i).Next.flatten.map (Qfh l)).flatten = true := by
  rw [He, Qhh]
  intro c hc
  obtain ⟨r, hr, hc⟩ := Qir.1 hc
  obtain ⟨m, hm', rfl⟩ := Qhe.1 hr
  exact Qhh.1 (mtok_ok (hm m hm')).1 c hc
 have c2 := rows_len ((stA a.States i).Next.flatten.map (Qfh l)) (c := 13) fun r hr => by
  obtain ⟨m, hm', rfl⟩ := Qhe.1 hr
  exact (mtok_ok (hm m hm')).2
 rw [Qgn] at c2
 have := Pq i0
 rw [Qcx]
 refine ⟨Qel (Qfp i0) (Qel a1 (Qel b1 c1)), ?_⟩
 simp only [Qgl]
 omega
theorem keyB_bytes {a : Qm} (h : RQ a) {l : List Nat} (hl : Qeh a l) {i : Nat} (hi : i < a.States.length) : Ms (Qfi a.States l i) = keyL a.States l i := by
 rw [Qfi, keyL]
 split
 ·rfl
 ·rw [Qd9, Qd9, bytesI_of (sign_bytes h hl hi).1, Qgj]
  rfl
theorem keyB_eq {a : Qm} (h : RQ a) {l : List Nat} (hl : Qeh a l) {i j : Nat} (hi : i < a.States.length) (hj : j < a.States.length) : Qfi a.States l i = Qfi a.States l j ↔ keyS a.States l i = keyS a.States l j := by
 rw [← keyL_eq h hl hi hj, ← keyB_bytes h hl hi, ← keyB_bytes h hl hj]
 exact ⟨fun e => by rw [e], bytesI_inj⟩
theorem deal_zip {κ μ : Type} [DecidableEq κ] [DecidableEq μ] (P : κ → μ → Prop) (hP : ∀ a b x y, P a x → P b y → (a = b ↔ x = y)) : ∀ (zs : List (κ × μ)) (A : List (κ × μ)), (∀ z ∈ zs, P z.1 z.2) → (∀ z ∈ A, P z.1 z.2) →
  Oc (A.map (·.1)) (zs.map (·.1)) = Oc (A.map (·.2)) (zs.map (·.2)) ∧ (Wq (A.map (·.1)) (zs.map (·.1))).length = (Wq (A.map (·.2)) (zs.map (·.2))).length := by
 intro zs
 induction zs with
 | nil => intro A _ _; exact ⟨rfl, by simp [Wq]⟩
 | cons z zs ih =>
  intro A hz hA
  have hpz := hz z Qg4
  have hmem : z.1 ∈ A.map (·.1) ↔ z.2 ∈ A.map (·.2) := by
   constructor
   ·intro h
    obtain ⟨y, hy, e⟩ := Qhe.1 h
    exact Qhe.2 ⟨y, hy, (hP _ _ _ _ (hA y hy) hpz).1 e⟩
   ·intro h
    obtain ⟨y, hy, e⟩ := Qhe.1 h
    exact Qhe.2 ⟨y, hy, (hP _ _ _ _ (hA y hy) hpz).2 e⟩
  have hidx : ∀ B : List (κ × μ), (∀ z ∈ B, P z.1 z.2) → (B.map (·.1)).idxOf z.1 = (B.map (·.2)).idxOf z.2 := by
   intro B
   induction B with
   | nil => intro _; rfl
   | cons y B ihB =>
    intro hB
    have hy := hP _ _ _ _ (hB y Qg4) hpz
    rw [Qhb, Qhb, List.idxOf_cons, List.idxOf_cons, ihB fun w hw => hB w (Qgz _ hw)]
    by_cases he : y.1 = z.1
    ·rw [Qio.2 he, Qio.2 (hy.1 he)]
    ·rw [Qg6.2 he, Qg6.2 fun e => he (hy.2 e)]
  have hadd : ∃ B : List (κ × μ), Qdm (A.map (·.1)) z.1 = B.map (·.1) ∧ Qdm (A.map (·.2)) z.2 = B.map (·.2) ∧ ∀ z ∈ B, P z.1 z.2 := by
   rw [Qdm, Qdm]
   by_cases h : z.1 ∈ A.map (·.1)
   ·rw [if_pos h, if_pos (hmem.1 h)]
    exact ⟨A, rfl, rfl, hA⟩
   ·rw [if_neg h, if_neg (fun e => h (hmem.2 e))]
    refine ⟨A ++ [z], by simp, by simp, fun w hw => ?_⟩
    rcases Qgk.1 hw with hw | hw
    ·exact hA w hw
    ·rw [Qgo.1 hw]; exact hpz
  obtain ⟨B, e1, e2, hB⟩ := hadd
  obtain ⟨g1, g2⟩ := ih B (fun w hw => hz w (Qgz _ hw)) hB
  rw [Qhb, Qhb, Oc, Oc, Wq, Wq, e1, e2]
  exact ⟨by rw [g1, hidx B hB], g2⟩
theorem keysBA_deal {a : Qm} (h : RQ a) {l : List Nat} (hl : Qeh a l) : Oc [] (Ea a.States l) = Qdb a.States l ∧ (Wq [] (Ea a.States l)).length = manyB a.States l := by
 have := deal_zip (fun k s => ∃ i, i < a.States.length ∧ k = Qfi a.States l i ∧ s = keyS a.States l i) (fun a' b x y ⟨i, hi, h1, h2⟩ ⟨j, hj, h3, h4⟩ => by rw [h1, h2, h3, h4]; exact keyB_eq h hl hi hj) ((List.range a.States.length).map fun i => (Qfi a.States l i, keyS a.States l i)) [] (fun z hz => by
  obtain ⟨i, hi, rfl⟩ := Qhe.1 hz
  exact ⟨i, Qh8.1 hi, rfl, rfl⟩) (fun z hz => by cases hz)
 simp only [List.map_map, Qiz] at this
 exact this
theorem blocks_l1 (K : Nat) (hK : 10000 ≤ K) {a : Qm} (h : RQ a) {l : List Nat} (hl : Qeh a l) (go : Int → Qm → (List Int) → Option (List Int)) (many : Nat) : ∀ (q k i : Nat) (U : List ByteArray) (X : List Nat), a.States.length - i = q → q < k → i ≤ a.States.length → X.length = i → U.length ≤ i →
  X6 K go k (many : Int) a (a.States.length : Int) (i : Int) (Jk l) (Qdd U) (Jk X ++ List.replicate (a.States.length - i) 0) = bif ((Wq U ((Ea a.States l).drop i)).length : Int) == (many : Int) then some (Jk (X ++ Oc U ((Ea a.States l).drop i))) else go ((Wq U ((Ea a.States l).drop i)).length : Int) a (Jk (X ++ Oc U ((Ea a.States l).drop i))) := by
 have hn := h.n2
 intro q
 induction q with
 | zero =>
  intro k i U X hq hk hi hX hU
  obtain ⟨k, rfl⟩ := Qjp k (by omega)
  have e0 : a.States.length - i = 0 := by omega
  have e1 : (Ea a.States l).drop i = [] := Qg1 (by rw [Ea, Qgn, Qhi]; omega)
  rw [X6]
  dsimp only
  rw [Qgr (by omega), cF, e0, e1, knownM_len, Wq, Oc, List.replicate_zero, Qhc, Qhc]
 | succ q ih =>
  intro k i U X hq hk hi hX hU
  obtain ⟨k, rfl⟩ := Qjp k (by omega)
  have hil : i < a.States.length := by omega
  have hlt : (i : Int) < (a.States.length : Int) := by omega
  have e1 : a.States.length - i = (a.States.length - (i + 1)) + 1 := by omega
  have hkl : i < (Ea a.States l).length := by rw [Ea, Qgn, Qhi]; exact hil
  have hki : (Ea a.States l)[i] = Qfi a.States l i := by simp [Ea]
  have hcl : (Jk X).length = i := by rw [Jk, Qgn]; exact hX
  have hj2 : Gm K (X6 K go k) (many : Int) (i : Int) (Qfi a.States l i) a (a.States.length : Int) (i : Int) (Jk l) (Qdd U) (Jk X ++ 0 :: List.replicate (a.States.length - (i + 1)) 0) = bif ((Wq U ((Ea a.States l).drop i)).length : Int) == (many : Int) then some (Jk (X ++ Oc U ((Ea a.States l).drop i))) else go ((Wq U ((Ea a.States l).drop i)).length : Int) a (Jk (X ++ Oc U ((Ea a.States l).drop i))) := by
   have hadl : (Qdm U (Qfi a.States l i)).length ≤ i + 1 := by
    rw [Qdm]; split
    ·omega
    ·rw [Qgl, Qgs]; omega
   have h3 := ih k (i + 1) (Qdm U (Qfi a.States l i)) (X ++ [posK (Qdm U (Qfi a.States l i)) (Qfi a.States l i)]) (by omega) (by omega) (by omega) (by rw [Qgl, Qgs]; omega) hadl
   have hc : Jk (X ++ [posK (Qdm U (Qfi a.States l i)) (Qfi a.States l i)]) = Jk X ++ [((posK (Qdm U (Qfi a.States l i)) (Qfi a.States l i) : Nat) : Int)] := by simp [Jk]
   rw [hc, Qgj, Qic, Qgj, Qic] at h3
   rw [Qgt hkl, hki, Wq, dealF_cons, ← h3]
   have hg := Qd7 (Jk X) (List.replicate (a.States.length - (i + 1)) (0 : Int)) 0
   have hs := fun v => Qdy (Jk X) (List.replicate (a.States.length - (i + 1)) (0 : Int)) 0 v
   rw [hcl] at hg
   rw [hcl] at hs
   rw [Gm, look]
   by_cases hm : Qfi a.States l i ∈ U
   ·have ha : Qdm U (Qfi a.States l i) = U := by rw [Qdm, if_pos hm]
    rw [if_pos hm, Option.isSome_some, Qh2, cF, Gl, hg, bS, look, if_pos hm, Qhv, Qgp, hs, Pm (n := i) (by omega), ha]
   ·have ha : Qdm U (Qfi a.States l i) = U ++ [Qfi a.States l i] := by rw [Qdm, if_neg hm]
    have hin : Qfi a.States l i ∈ U ++ [Qfi a.States l i] := Qgk.2 (.inr (Qgo.2 rfl))
    rw [if_neg hm, Option.isSome_none, Qhm, cT, Yp rfl, knownM_len, ← Qfx, Gl, hg, bS, look, if_pos hin, Qhv, Qgp, hs, Pm (n := i) (by omega), ha]
  rw [X6]
  dsimp only
  rw [Qgu hlt, cT, Ze hil, bS, e1, Qh4]
  by_cases h0 : i = 0
  ·subst h0
   rw [Qgr (by omega), cF]
   exact hj2
  ·have hgl := hl.get i
   have hsz := it_size (Oa (n := (l.getD i 0 : Int)) (by omega) (by omega))
   have hsg := (sign_bytes h hl hil)
   have hsz2 : (ofBytes (Qcx l (stA a.States i))).size ≤ 100000 := by rw [← Qd8, bytesI_of hsg.1]; exact hsg.2
   rw [Qgu (by omega), cT, Qf3 (by rw [hl.len]; exact hil), bS, strconv_Itoa, if_pos (by omega), bS, Yp (by show (itoaS (l.getD i 0 : Int)).size + 1 ≤ 9223372036854775807; omega), sign_ok hK h hl hil, bS, Yp (by rw [ByteArray.size_append]; show (itoaS (l.getD i 0 : Int)).size + 1 + _ ≤ 9223372036854775807; omega)]
   rw [Qfi, if_neg h0] at hj2
   exact hj2
theorem next_num {a : Qm} (h : RQ a) (l : List Nat) : Qeh a (Qdb a.States l) :=
 ⟨Qfv _ _, fun x hx => by
  rw [Qdb, Qdh] at hx
  obtain ⟨k, hk, rfl⟩ := Qhe.1 hx
  have h1 := posK_lt ((E1 (Qce a.States l) [] k).2 (.inr hk))
  show posK (Wq [] (Qce a.States l)) k < 500
  have h2 := manyB_le a.States l
  have := h.n2
  rw [manyB] at h2
  omega⟩
theorem castL_repl (n : Nat) : Jk (List.replicate n 0) = List.replicate n 0 := by rw [Jk, Qim]; rfl
theorem blocks_l0 (K : Nat) (hK : 10000 ≤ K) {a : Qm} (h : RQ a) : ∀ (k' k : Nat) (l : List Nat) (many : Nat), k' ≤ k → Qeh a l → many ≤ (Wq [] l).length → a.States.length < k' + many →
  Uz K k (many : Int) a (Jk l) = some (Jk (blkS a.States k' l many)) := by
 intro k'
 induction k' with
 | zero =>
  intro k l many _ h1 h2 h3
  have := (Qdc h1.len).1
  have := manyB_le a.States l
  omega
 | succ k' ih =>
  intro k l many hk h1 h2 h3
  obtain ⟨k, rfl⟩ := Qjp k (by omega)
  have hn := h.n2
  have hcl : (Jk l).length = a.States.length := by rw [Jk, Qgn]; exact h1.len
  have h4 := blocks_l1 K hK h h1 (Uz K k) many a.States.length K 0 [] [] rfl (by omega) (Qgx _) rfl (Qgx _)
  obtain ⟨d1, d2⟩ := keysBA_deal h h1
  rw [Qg5, Qhj, Qgw, d1, d2, Qhp] at h4
  have hle := (Qdc h1.len).1
  rw [Uz]
  dsimp only
  rw [hcl, Yp (by omega), Yp (Z3.2 ⟨by simp only [maxLen]; omega, by omega⟩), Qgp, blkS]
  refine Eq.trans h4 ?_
  by_cases he : manyB a.States l = many
  ·rw [if_pos he, he, Qis, cT]
  ·rw [if_neg he, Qg6.2 (by omega), cF]
   exact ih k _ _ (by omega) (next_num h l) (by rw [uniq_next]; exact Qgv _) (by omega)
theorem blocks_ok {K : Nat} (hK : 10000 ≤ K) {a : Qm} (h : Pl a) : E7 K a = some (Jk (X0 a.States)) := by
 have hn := h.1.n2
 have := blocks_l0 K hK h.1 (a.States.length + 1) K (List.replicate a.States.length 0) 0 (by omega) ⟨Qhk .., fun x hx => by rw [(List.mem_replicate.1 hx).2]; omega⟩ (Qgx _) (by omega)
 rw [castL_repl] at this
 rw [E7, h.auto (by omega), bS, Qh2, cF, Yp (by omega), Yp (Z3.2 ⟨by simp only [maxLen]; omega, by omega⟩), Qgp]
 exact this
end Go.Rv
namespace Go.Rv
theorem geti_get {α : Type} {l : List α} {i : Nat} (d : α) (h : i < l.length) : Yw l (i : Int) = some (l.getD i d) := by rw [Ze h, Za h]
theorem Qct {α : Type} {l : List α} {i : Nat} (h : i < l.length) : l.take (i + 1) = l.take i ++ [l[i]] := by
 rw [List.take_add_one, List.getElem?_eq_getElem h]; rfl
theorem idx_new {l : List Nat} {i : Nat} (h : i < l.length) (hn : l[i] ∉ l.take i) : l.idxOf l[i] = i := by
 obtain ⟨h1, h2, h3⟩ := Qfz h
 refine Decidable.byContradiction fun hc => hn ?_
 have : l[l.idxOf l[i]] ∈ l.take i := by
  rw [List.mem_take_iff_getElem]
  exact ⟨l.idxOf l[i], by omega, rfl⟩
 rw [Qig h2] at this
 exact this
theorem join_l0 (K : Nat) (t : Qb) (l : List Nat) (hl : l.length ≤ 256) : ∀ (q k i : Nat) (M : List (Int × Int)), l.length - i = q → q < k → i ≤ l.length → (∀ v : Nat, M.lookup (v : Int) = if v ∈ l.take i then some ((l.idxOf v : Nat) : Int) else none) →
  Ya K k (Jk l) (l.length : Int) (i : Int) t M ((Ra l).take i) = Xu K t (Ra l) := by
 intro q
 induction q with
 | zero =>
  intro k i M hq hk hi hM
  obtain ⟨k, rfl⟩ := Qjp k (by omega)
  rw [Ya]
  dsimp only
  rw [Qgr (by omega), cF, Qhs (by rw [Ra, Qgn]; omega), bind_id]
 | succ q ih =>
  intro k i M hq hk hi hM
  obtain ⟨k, rfl⟩ := Qjp k (by omega)
  have hil : i < l.length := by omega
  have hlt : (i : Int) < (l.length : Int) := by omega
  have hjl : i < (Ra l).length := by rw [Ra, Qgn]; exact hil
  have hjt : (Ra l).take (i + 1) = (Ra l).take i ++ [((l.idxOf l[i] : Nat) : Int)] := by
   rw [Qct hjl]
   have := Qdg hil
   rw [Za hjl] at this
   rw [this]
  have hm := hM l[i]
  have htl : ((Ra l).take i).length ≤ 256 := by rw [Qg8]; omega
  rw [Ya]
  dsimp only
  rw [Qgu hlt, cT, Qf3 hil, bS, Za hil, hm]
  by_cases hin : l[i] ∈ l.take i
  ·rw [if_pos hin, Option.isSome_some, Qh2, cF, Vr, hm, if_pos hin, Qhv, Yp (Z3.2 ⟨by simp only [maxLen, Qgs]; omega, by simp only [Qgs]; omega⟩), Pm (n := i) (by omega), ← hjt]
   refine ih k (i + 1) M (by omega) (by omega) (by omega) fun v => ?_
   rw [hM, Qct hil]
   by_cases hv : v ∈ l.take i
   ·rw [if_pos hv, if_pos (Qgk.2 (.inl hv))]
   ·rw [if_neg hv, if_neg fun hc => by
     rcases Qgk.1 hc with hc | hc
     ·exact hv hc
     ·rw [Qgo.1 hc] at hv; exact hv hin]
  ·have hM2 : ∀ v : Nat, (M ++ [(((l[i] : Nat) : Int), (i : Int))]).lookup (v : Int) = if v ∈ l.take (i + 1) then some ((l.idxOf v : Nat) : Int) else none := fun v => by
    rw [lookup_app, hM, Qct hil]
    by_cases hv : v ∈ l.take i
    ·rw [if_pos hv, if_pos (Qgk.2 (.inl hv))]; rfl
    ·rw [if_neg hv, Option.none_or, Qhn]
     by_cases he : v = l[i]
     ·subst he
      rw [Qis, if_pos (Qgk.2 (.inr (Qgo.2 rfl))), idx_new hil hin]
     ·rw [Qg6.2 (by omega), if_neg fun hc => by
       rcases Qgk.1 hc with hc | hc
       ·exact hv hc
       ·exact he (Qgo.1 hc)]
      rfl
   have hin2 : l[i] ∈ l.take (i + 1) := by rw [Qct hil]; exact Qgk.2 (.inr (Qgo.2 rfl))
   rw [if_neg hin, Option.isSome_none, Qhm, cT, Yp rfl, Vr, hM2, if_pos hin2, Qhv, Yp (Z3.2 ⟨by simp only [maxLen, Qgs]; omega, by simp only [Qgs]; omega⟩), Pm (n := i) (by omega), ← hjt]
   exact ih k (i + 1) _ (by omega) (by omega) (by omega) hM2
theorem Pl.withS {a : Qm} (h : Pl a) {S : List Qa} (hs : RQ (withS a S)) : Pl (withS a S) := ⟨hs, h.2⟩
theorem join_ok' {K : Nat} (hK : 10000 ≤ K) {a : Qm} (h : Pl a) : Wu K ⟨a⟩ = some ⟨withS a (S4 a.States)⟩ := by
 have hb := (Jc h.1.toOk).len
 have hn := h.1.n2
 have := join_l0 K ⟨a⟩ (X0 a.States) (by omega) (X0 a.States).length K 0 [] rfl (by omega) (Qgx _) fun v => by rw [List.take_zero, if_neg Qi1]; rfl
 rw [Qg5, List.take_zero, send1_of (by omega) h.1 (by rw [Ra, Qgn, hb])] at this
 rw [Wu, blocks_ok hK h, bS, show (Jk (X0 a.States)).length = (X0 a.States).length by rw [Jk, Qgn]]
 exact this
theorem of_ok {a : Qm} (h : Pl a) {K : Nat} (hK : 10000000 ≤ K) : ∃ l, Qes a.States l ∧ Tc K a = some (trimA a l, 0) := by
 obtain ⟨l, h1, h2⟩ := bury_ok' h hK
 have hcl := h.1.cl
 have hB := h.withS (h.1.bury l)
 refine ⟨l, h1, ?_⟩
 rw [Tc, h.auto (by omega), bS, Qh2, cF, Ht, Yp (Z3.2 ⟨by simp only [maxLen, Qg9]; omega, by simp only [Qg9]; omega⟩), bS, Qgw]
 have e : (⟨a.Split, a.Counts, a.States⟩ : Qm) = a := rfl
 rw [e, h2, bS, trimA, B9]
 dsimp only [Go.Rv.withS] at hB ⊢
 by_cases hc : a.Counts.length = 0
 ·rw [Qio.2 (show (a.Counts.length : Int) = 0 by omega), cT, join_ok' (by omega) hB, bS, Ew]
  dsimp only [Go.Rv.withS]
  have := keep_ok (K := K) (by omega) (h.1.bury l).join
  dsimp only [Go.Rv.withS] at this
  rw [this, bS, hc, Qis, if_pos rfl]
 ·rw [Qg6.2 (show (a.Counts.length : Int) ≠ 0 by omega), cF, Ew]
  have := keep_ok (K := K) (by omega) (h.1.bury l)
  dsimp only [Go.Rv.withS] at this
  rw [this, bS, Qg6.2 hc, if_neg (by decide)]
def noA : Qm := ⟨⟨Zg.mk fun _ => 0, 0⟩, [], []⟩
theorem of_bad {a : Qm} {K : Nat} (h : Hh K a = some false) : Tc K a = some (noA, 1) := by
 rw [Tc, h, bS, Qhm, cT]; rfl
def supL {α : Type} (f : α → Nat) (l : List α) : Nat := l.foldr (fun x n => max (f x) n) 0
theorem le_supL {α : Type} (f : α → Nat) : ∀ {l : List α} {x : α}, x ∈ l → f x ≤ supL f l := by
 intro l
 induction l with
 | nil => intro x h; cases h
 | cons y l ih =>
  intro x h
  simp only [supL, List.foldr_cons]
  rcases Qhl.1 h with rfl | h
  ·omega
  ·have := ih h; simp only [supL] at this; omega
def needK (a : Qm) : Nat :=
 10000000 + a.Counts.length + a.States.length + supL (fun s => s.L.length + s.R.length + s.Next.length + supL (fun r : List Qc => r.length + supL (fun m : Qc => m.Ops.length) r) s.Next) a.States
theorem big_need (a : Qm) {K : Nat} (h : needK a ≤ K) : Qeb a K ∧ 10000000 ≤ K := by
 simp only [needK] at h
 refine ⟨⟨by omega, by omega, by omega, fun s hs => ?_⟩, by omega⟩
 have h1 := le_supL (fun s : Qa => s.L.length + s.R.length + s.Next.length + supL (fun r : List Qc => r.length + supL (fun m : Qc => m.Ops.length) r) s.Next) hs
 refine ⟨by omega, by omega, by omega, fun r hr => ?_⟩
 have h2 := le_supL (fun r : List Qc => r.length + supL (fun m : Qc => m.Ops.length) r) hr
 refine ⟨by omega, fun m hm => ?_⟩
 have h3 := le_supL (fun m : Qc => m.Ops.length) hm
 omega
theorem good_or {a : Qm} (h : Okay a) {K : Nat} (hK : Qeb a K) : (Pl a ∧ Hh K a = some true ∧ Vf K a = some true) ∨ (Qc0 a = false ∧ Hh K a = some false ∧ Vf K a = some false) := by
 have h1 := autoRight K a h hK
 have h2 := refRight K a h hK
 by_cases hr : Qc0 a = true
 ·rw [hr] at h1 h2
  exact .inl ⟨⟨Qft.1 hr, h.split⟩, h1, h2⟩
 ·have hf : Qc0 a = false := by simpa using hr
  rw [hf] at h1 h2
  exact .inr ⟨hf, h1, h2⟩
theorem shown_add (k : Nat) : Hc (k + 400) = some true := by kernel_rfl
theorem shown_at {K : Nat} (hK : 400 ≤ K) : Hc K = some true := by
 obtain ⟨k, rfl⟩ : ∃ k, K = k + 400 := ⟨K - 400, by omega⟩
 exact shown_add k
end Go.Rv

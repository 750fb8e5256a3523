/- Trimming, plainly: what is trimmed is right. -/
/- Trimming, plainly: bury, and keep. -/
/- Trimming, plainly: what tells states apart, as a text. -/
/- Trimming, plainly: states are dealt to classes. -/
import Derived.Test.YtcmfaclkgdmpbaaGreatDoorRpUI
namespace Go.Rv
def withS (a : Ql) (S : List Qa) : Ql := ⟨a.Split, a.Counts, S⟩
def sendOk (S T : List Qa) (to : List Int) : Prop := ∀ i, 1 ≤ i → i < S.length → to.getD i (-1) = -1 ∨ (1 ≤ to.getD i (-1) ∧ to.getD i (-1) < T.length ∧ (stA T (to.getD i (-1)).toNat).R = (stA S i).R)
theorem sendM_ok {S T : List Qa} {to : List Int} (h : sendOk S T to) {R : List Int} {m : Qe} (hm : MvQ S R m) : MvQ T R (K8 to m) := by
 rw [K8]
 rcases hm with ⟨h1, h2⟩ | ⟨h1, h2, h3, h4⟩
 ·rw [if_neg (by omega)]; exact .inl ⟨rfl, rfl⟩
 ·rcases h m.To.toNat (by omega) (by omega) with g | ⟨g1, g2, g3⟩
  ·rw [if_neg (by omega)]; exact .inl ⟨rfl, rfl⟩
  ·rw [if_pos ⟨by omega, by omega⟩]
   refine .inr ⟨g1, g2, ?_, ?_⟩
   ·dsimp only; rw [g3]; exact h3
   ·dsimp only; rw [g3]; exact h4
theorem sendSt_ok {n : Nat} {many : Int} {S T : List Qa} {to : List Int} (h : sendOk S T to) {s : Qa} (hs : StQ n many S s) : StQ n many T (Pr to s) := by
 obtain ⟨h1, h2, h3, h4, h5, h6, h7, h8⟩ := hs
 refine ⟨h1, h2, ?_, h4, h5, h6, fun r hr => ?_, fun r hr m hm => ?_⟩
 ·rw [Pr]; dsimp only; rw [List.length_map]; exact h3
 ·obtain ⟨q, hq, rfl⟩ := List.mem_map.1 hr
  rw [List.length_map]; exact h7 q hq
 ·obtain ⟨q, hq, rfl⟩ := List.mem_map.1 hr
  obtain ⟨m', hm', rfl⟩ := List.mem_map.1 hm
  exact sendM_ok h (h8 q hq m' hm')
theorem RQ.send {a : Ql} (h : RQ a) {to : List Int} (hs : sendOk a.States (Df to a.States) to) : RQ (withS a (Df to a.States)) := by
 refine ⟨h.split, h.cl, h.cn, ?_, ?_, ?_, ?_, fun s hs' => ?_⟩
 ·show 1 ≤ (Df to a.States).length
  rw [Lu]; exact h.n1
 ·show (Df to a.States).length ≤ 256
  rw [Lu]; exact h.n2
 ·show (stA (Df to a.States) 0).L = []
  rw [Qbz]; exact h.l0
 ·show (stA (Df to a.States) 0).R = []
  rw [Qbz]; exact h.r0
 ·obtain ⟨q, hq, rfl⟩ := List.mem_map.1 hs'
  exact sendSt_ok hs (h.st q hq)
theorem RQ.bury {a : Ql} (h : RQ a) (l : List Bool) : RQ (withS a (Uu a.States l)) :=
 h.send fun i h1 h2 => by
  rw [Qch]
  split
  ·refine .inr ⟨by omega, by rw [Lu]; omega, ?_⟩
   rw [Qbz, Int.toNat_natCast]; rfl
  ·exact .inl rfl
theorem Qh0 {l : List Nat} {i : Nat} (h : i < l.length) : l.idxOf l[i] ≤ i ∧ l.idxOf l[i] < l.length ∧ eqL l (l.idxOf l[i]) i := by
 have h1 : l.idxOf l[i] < l.length := List.idxOf_lt_length_iff.2 (List.getElem_mem h)
 refine ⟨?_, h1, ?_⟩
 ·refine Decidable.byContradiction fun hc => ?_
  have := List.not_of_lt_findIdx (p := (· == l[i])) (xs := l) (i := i) (by rw [List.idxOf] at hc; omega)
  simp at this
 ·rw [eqL, Zc h1, Zc h, List.getElem_idxOf h1]
theorem RQ.join {a : Ql} (h : RQ a) : RQ (withS a (Qbf a.States)) :=
 h.send fun i h1 h2 => by
  have hb := Jy h.toOk
  have hi : i < (Vh a.States).length := by rw [hb.len]; exact h2
  obtain ⟨g1, g2, g3⟩ := Qh0 hi
  rw [Qce hi]
  have hs := hb.sim _ _ (by rw [← hb.len]; exact g2) h2 g3
  rw [Int.toNat_natCast, Lu, Qbz]
  rcases hs with hs | ⟨hs1, hs2, hs3, _⟩
  ·omega
  ·refine .inr ⟨by omega, by rw [hb.len] at g2; omega, ?_⟩
   exact hs3
theorem Qcs {S : List Qa} (hT : toOk S) (h0 : 0 < S.length) : 0 < (Z1 S).length ∧ (Z1 S).getD 0 0 = 0 ∧ (Z1 S).idxOf 0 = 0 := by
 obtain ⟨t, ht⟩ := (Kn hT h0).pre
 rw [ht]
 exact ⟨by simp, by simp, by simp [List.idxOf, List.findIdx_cons]⟩
theorem Qfj {S : List Qa} (hT : toOk S) (h0 : 0 < S.length) : (Z1 S).length ≤ S.length := by
 have ho := Kn hT h0
 have := Qdq (Z1 S) (List.range S.length) ho.nodup fun x hx => List.mem_range.2 (ho.lt x hx)
 rw [List.length_range] at this
 exact this
theorem Qgf {S : List Qa} {i : Nat} (h : i < (Z1 S).length) : stA (Po S) i = Pr (C5 S.length (Z1 S)) (stA S ((Z1 S)[i])) := by
 rw [M5 (by rw [B1]; exact h)]
 simp only [Po, List.getElem_map]
theorem RQ.keep {a : Ql} (h : RQ a) : RQ (withS a (Po a.States)) := by
 have h0 := h.n1
 have ho := Kn h.toOk (by omega)
 obtain ⟨z1, z2, z3⟩ := Qcs h.toOk (by omega)
 have z4 : (Z1 a.States)[0] = 0 := by rw [Zc z1] at z2; exact z2
 have hs : sendOk a.States (Po a.States) (C5 a.States.length (Z1 a.States)) := fun i h1 h2 => by
  rw [Sk h2]
  split
  ·next hm =>
   have g := List.idxOf_lt_length_iff.2 hm
   have gg := List.getElem_idxOf g
   refine .inr ⟨?_, by rw [B1]; omega, ?_⟩
   ·have : (Z1 a.States).idxOf i ≠ 0 := fun e => by
     simp only [e] at gg
     rw [z4] at gg; omega
    omega
   ·rw [Int.toNat_natCast, Qgf g, gg]; rfl
  ·exact .inl rfl
 refine ⟨h.split, h.cl, h.cn, ?_, ?_, ?_, ?_, fun s hs' => ?_⟩
 ·show 1 ≤ (Po a.States).length
  rw [B1]; exact z1
 ·show (Po a.States).length ≤ 256
  have := Qfj h.toOk (by omega)
  have := h.n2
  rw [B1]; omega
 ·show (stA (Po a.States) 0).L = []
  rw [Qgf z1, z4]; exact h.l0
 ·show (stA (Po a.States) 0).R = []
  rw [Qgf z1, z4]; exact h.r0
 ·obtain ⟨q, hq, rfl⟩ := List.mem_map.1 hs'
  have hql := ho.lt q hq
  exact sendSt_ok hs (by rw [M5 hql]; exact h.st _ (List.getElem_mem hql))
def Dd (a : Ql) (l : List Bool) : Ql := withS a (Bb a.States l (a.Counts.length == 0))
theorem RQ.trim {a : Ql} (h : RQ a) (l : List Bool) : RQ (Dd a l) := by
 rw [Dd, Bb]
 split
 ·exact (h.bury l).join.keep
 ·exact (h.bury l).keep
end Go.Rv
namespace Go.Rv
theorem bind_id {α : Type} (o : Option α) : (o.bind fun v => some v) = o := by cases o <;> rfl
theorem bury_l0 (K : Nat) (t : Qc) (l : List Bool) (hl : l.length ≤ 256) : ∀ (q k i : Nat) (X : List Int), l.length - i = q → q < k → X.length = i → i ≤ l.length →
  Xc K k l (l.length : Int) (i : Int) t (X ++ List.replicate (l.length - i) 0) = V2 K t (X ++ (Qhc l).drop i) := by
 intro q
 induction q with
 | zero =>
  intro k i X hq hk hX hi
  obtain ⟨k, rfl⟩ : ∃ q, k = q + 1 := ⟨k - 1, by omega⟩
  have e0 : l.length - i = 0 := by omega
  rw [Xc]
  dsimp only
  rw [decide_eq_false (by omega), cF, e0, List.drop_eq_nil_of_le (by rw [Qhc, List.length_map, List.length_range]; omega), bind_id]
  rfl
 | succ q ih =>
  intro k i X hq hk hX hi
  obtain ⟨k, rfl⟩ : ∃ q, k = q + 1 := ⟨k - 1, by omega⟩
  have hil : i < l.length := by omega
  have hlt : (i : Int) < (l.length : Int) := by omega
  have e1 : l.length - i = (l.length - (i + 1)) + 1 := by omega
  have hbl : i < (Qhc l).length := by rw [Qhc, List.length_map, List.length_range]; exact hil
  have hd := List.drop_eq_getElem_cons hbl
  have hb : (Qhc l)[i] = if l[i] = true then (i : Int) else -1 := by
   have := Qch (l := l) (i := i)
   rw [Zc hbl, Zc hil] at this
   exact this
  have h3 := fun y => ih k (i + 1) (X ++ [y]) (by omega) (by omega) (by rw [List.length_append, List.length_singleton]; omega) (by omega)
  simp only [List.append_assoc, List.singleton_append] at h3
  have hset : ∀ y z : Int, (X ++ y :: List.replicate (l.length - (i + 1)) 0).set i z = X ++ z :: List.replicate (l.length - (i + 1)) 0 := fun y z => by
   have := Qf4 X (List.replicate (l.length - (i + 1)) 0) y z
   rw [hX] at this; exact this
  have hget : ∀ y : Int, Xa (X ++ y :: List.replicate (l.length - (i + 1)) 0) (i : Int) = some y := fun y => by
   have := Qgh X (List.replicate (l.length - (i + 1)) 0) y
   rw [hX] at this; exact this
  rw [Xc]
  dsimp only
  rw [decide_eq_true hlt, cT, Zg hil, bS, e1, List.replicate_succ, hget, bS, Int.toNat_natCast, hset, hget, hset, Ox (n := i) (by omega), hd, hb]
  cases hv : l[i] with
  | true => rw [Bool.not_true, cF, if_pos rfl, h3]
  | false => rw [Bool.not_false, cT, bS, if_neg (by decide), h3]
theorem send_of {K : Nat} (hK : 1000 ≤ K) {a : Ql} (h : RQ a) {to : List Int} (ht : to.length = a.States.length) : V2 K ⟨a⟩ to = some ⟨withS a (Df to a.States)⟩ :=
 send_ok K hK a to h.n2 (fun s hs => h.small hs) fun s hs r hr m hm => by
  obtain ⟨i, hi, rfl⟩ := List.getElem_of_mem hs
  have := h.toOk i hi m (by rw [mvs, M5 hi]; exact List.mem_flatten.2 ⟨r, hr, hm⟩)
  omega
theorem send1_of {K : Nat} (hK : 1000 ≤ K) {a : Ql} (h : RQ a) {to : List Int} (ht : to.length = a.States.length) : Vc K ⟨a⟩ to = some ⟨withS a (Df to a.States)⟩ :=
 send1_ok K hK a to h.n2 (fun s hs => h.small hs) fun s hs r hr m hm => by
  obtain ⟨i, hi, rfl⟩ := List.getElem_of_mem hs
  have := h.toOk i hi m (by rw [mvs, M5 hi]; exact List.mem_flatten.2 ⟨r, hr, hm⟩)
  omega
theorem bury_ok' {a : Ql} (h : Ru a) {K : Nat} (hK : 10000000 ≤ K) : ∃ l, Ow a.States l ∧ Gz K ⟨a⟩ = some ⟨withS a (Uu a.States l)⟩ := by
 obtain ⟨l, h1, h2⟩ := live_ok h hK
 have hn := h.1.n2
 have hl := h2.len
 have h3 := bury_l0 K ⟨a⟩ l (by omega) l.length K 0 [] rfl (by omega) rfl (Nat.zero_le _)
 rw [Int.natCast_zero, List.drop_zero, List.nil_append, List.nil_append, Nat.sub_zero, send_of (by omega) h.1 (by rw [Qhc, List.length_map, List.length_range]; exact hl)] at h3
 refine ⟨l, h2, ?_⟩
 rw [Gz]
 dsimp only
 rw [Xh (by omega), Xh (Yg.2 ⟨by simp only [maxLen]; omega, by omega⟩), h1, bS, Int.toNat_natCast, ← hl]
 exact h3
/- Keep. -/
def We (o : List Nat) : List Int := o.map fun n : Nat => (n : Int)
theorem Dt (n : Nat) (o : List Nat) : (C5 n o).length = n := by rw [C5, List.length_map, List.length_range]
theorem keepT_snoc {n x : Nat} {o : List Nat} (hx : x < n) (h : x ∉ o) : (C5 n o).set x (o.length : Int) = C5 n (o ++ [x]) := by
 have _ := hx
 refine List.ext_getElem (by rw [List.length_set, Dt, Dt]) fun i h1 h2 => ?_
 rw [Dt] at h2
 have e := Sk (n := n) (o := o ++ [x]) h2
 rw [Zc (by rw [Dt]; exact h2)] at e
 rw [e]
 by_cases hi : x = i
 ·subst hi
  rw [List.getElem_set_self, if_pos (List.mem_append.2 (.inr (List.mem_singleton.2 rfl))), List.idxOf_append, if_neg h]
  simp
 ·have e2 := Sk (n := n) (o := o) h2
  rw [Zc (by rw [Dt]; exact h2)] at e2
  rw [List.getElem_set_ne hi, e2]
  by_cases hm : i ∈ o
  ·rw [if_pos hm, if_pos (List.mem_append.2 (.inl hm)), List.idxOf_append, if_pos hm]
  ·rw [if_neg hm, if_neg (fun hc => by
    rcases List.mem_append.1 hc with hc | hc
    ·exact hm hc
    ·exact hi (List.mem_singleton.1 hc).symm)]
theorem keep_l1 (K : Nat) (go : Int → Qc → (List Int) → (List Int) → Option Qc) (x4 : Int) (ms : List Qe) (t : Qc) (n : Nat) (hm : ∀ m ∈ ms, m.To < n) (hl : ms.length ≤ 100000) : ∀ (q k j : Nat) (o : List Nat), ms.length - j = q → q < k → o.length ≤ 1000 + j →
  Yx K go k x4 ms (ms.length : Int) (j : Int) t (C5 n o) (We o) = go (IntKind.i64.wrap (x4 + 1)) t (C5 n ((ms.drop j).foldl Qeq o)) (We ((ms.drop j).foldl Qeq o)) := by
 intro q
 induction q with
 | zero =>
  intro k j o hq hk ho
  obtain ⟨k, rfl⟩ : ∃ q, k = q + 1 := ⟨k - 1, by omega⟩
  rw [Yx]
  dsimp only
  rw [decide_eq_false (by omega), cF, List.drop_eq_nil_of_le (by omega)]
  rfl
 | succ q ih =>
  intro k j o hq hk ho
  obtain ⟨k, rfl⟩ : ∃ q, k = q + 1 := ⟨k - 1, by omega⟩
  have hj : j < ms.length := by omega
  have hto := hm _ (List.getElem_mem hj)
  have hw := Ox (n := j) (by omega)
  have hlt : (j : Int) < (ms.length : Int) := by omega
  have hcl : (We o).length = o.length := by rw [We, List.length_map]
  rw [Yx]
  dsimp only
  rw [decide_eq_true hlt, cT, Zg hj, bS, List.drop_eq_getElem_cons hj, List.foldl_cons, hw]
  generalize ms[j] = m at *
  by_cases h0 : m.To ≥ 0
  ·obtain ⟨x, hx⟩ : ∃ x : Nat, m.To = (x : Int) := ⟨m.To.toNat, by omega⟩
   have hxn : x < n := by omega
   have hg : Xa (C5 n o) m.To = some (if x ∈ o then (o.idxOf x : Int) else -1) := by
    rw [hx, Zg (by rw [Dt]; exact hxn), ← Zc (d := -1) (by rw [Dt]; exact hxn), Sk hxn]
   rw [decide_eq_true h0, cT, hg, bS]
   by_cases hmem : x ∈ o
   ·have ha : Qeq o m = o := by rw [Qeq, if_neg (by rw [hx, Int.toNat_natCast]; exact fun h => h.2 hmem)]
    rw [if_pos hmem, decide_eq_false (by omega), cF, ha]
    exact ih k (j + 1) o (by omega) (by omega) (by omega)
   ·have ha : Qeq o m = o ++ [x] := by rw [Qeq, hx, Int.toNat_natCast, if_pos ⟨by omega, hmem⟩]
    rw [if_neg hmem, decide_eq_true (by omega), cT, Xh (Yg.2 ⟨by simp only [maxLen, List.length_singleton]; omega, by simp only [List.length_singleton]; omega⟩), hcl, hx, Int.toNat_natCast, keepT_snoc hxn hmem, ha]
    have := ih k (j + 1) (o ++ [x]) (by omega) (by omega) (by rw [List.length_append, List.length_singleton]; omega)
    rw [← this]
    simp [We]
  ·have ha : Qeq o m = o := by rw [Qeq, if_neg (fun h => h0 h.1)]
   rw [decide_eq_false h0, cF, ha]
   exact ih k (j + 1) o (by omega) (by omega) (by omega)
theorem keep_l2 (K : Nat) (f : Zi) (many : Int) (cs : List Vr) (S : List Qa) (r : List Nat) (hr : ∀ x ∈ r, x < S.length) (hrl : r.length ≤ 256) : ∀ (q k i : Nat) (X : List Qa), r.length - i = q → q < k → X.length = i → i ≤ r.length →
  Vd K k (r.length : Int) (i : Int) f many cs S X (We r) = some ⟨⟨⟨f, many⟩, cs, X ++ (r.drop i).map (stA S)⟩⟩ := by
 intro q
 induction q with
 | zero =>
  intro k i X hq hk hX hi
  obtain ⟨k, rfl⟩ : ∃ q, k = q + 1 := ⟨k - 1, by omega⟩
  rw [Vd]
  dsimp only
  rw [decide_eq_false (by omega), cF, List.drop_eq_nil_of_le (by omega), List.map_nil, List.append_nil]
 | succ q ih =>
  intro k i X hq hk hX hi
  obtain ⟨k, rfl⟩ : ∃ q, k = q + 1 := ⟨k - 1, by omega⟩
  have hil : i < r.length := by omega
  have hlt : (i : Int) < (r.length : Int) := by omega
  have hx := hr _ (List.getElem_mem hil)
  have hg : Xa (We r) (i : Int) = some (r[i] : Int) := by
   rw [Zg (by rw [We, List.length_map]; exact hil)]
   simp [We]
  rw [Vd]
  dsimp only
  rw [decide_eq_true hlt, cT, hg, bS, Zg hx, bS, Xh (Yg.2 ⟨by simp only [maxLen, List.length_singleton]; omega, by simp only [List.length_singleton]; omega⟩), Ox (n := i) (by omega), ih k (i + 1) _ (by omega) (by omega) (by rw [List.length_append, List.length_singleton]; omega) (by omega), List.drop_eq_getElem_cons hil, List.map_cons, M5 hx, List.append_assoc]
  rfl
theorem keep_l0 (K : Nat) (hK : 10000 ≤ K) {a : Ql} (h : RQ a) : ∀ (k' k i : Nat) (o : List Nat), k' ≤ k → o.Nodup → (∀ x ∈ o, x < a.States.length) → i ≤ o.length → a.States.length < k' + i → (bfs a.States k' i o).length ≤ 256 → (∀ x ∈ bfs a.States k' i o, x < a.States.length) →
  Xb K k (i : Int) ⟨a⟩ (C5 a.States.length o) (We o) = some ⟨withS a ((bfs a.States k' i o).map fun q => Pr (C5 a.States.length (bfs a.States k' i o)) (stA a.States q))⟩ := by
 intro k'
 induction k' with
 | zero =>
  intro k i o _ h1 h2 h3 h4
  have := Qdq o (List.range a.States.length) h1 fun x hx => List.mem_range.2 (h2 x hx)
  rw [List.length_range] at this
  omega
 | succ k' ih =>
  intro k i o hk h1 h2 h3 h4 h5 h6
  obtain ⟨k, rfl⟩ : ∃ q, k = q + 1 := ⟨k - 1, by omega⟩
  have hn := h.n2
  have hol := Qdq o (List.range a.States.length) h1 fun x hx => List.mem_range.2 (h2 x hx)
  rw [List.length_range] at hol
  have hcl : (We o).length = o.length := by rw [We, List.length_map]
  rw [Xb]
  rw [bfs] at h5 h6 ⊢
  dsimp only
  rw [hcl]
  by_cases hi : i < o.length
  ·rw [if_pos hi] at h5 h6 ⊢
   have hx := h2 _ (List.getElem_mem hi)
   have hg : Xa (We o) (i : Int) = some (o[i] : Int) := by
    rw [Zg (by rw [hcl]; exact hi)]
    simp [We]
   have hsm := h.small (List.getElem_mem hx)
   have hfl := hsm.flat
   have hmv : mvs a.States o[i] = (a.States[o[i]]).Next.flatten := by rw [mvs, M5 hx]
   have hto : ∀ m ∈ mvs a.States o[i], m.To < a.States.length := h.toOk _ hx
   rw [Zc hi] at h5 h6 ⊢
   rw [decide_eq_true (by omega), cT, hg, bS, Zg hx, bS, moves_eq K _ (by have := hsm.next; omega) (by have := hsm.next; omega) (by omega), bS, ← hmv]
   have := keep_l1 K (Xb K k) (i : Int) (mvs a.States o[i]) ⟨a⟩ a.States.length hto (by rw [hmv]; omega) (mvs a.States o[i]).length K 0 o rfl (by rw [hmv]; omega) (by omega)
   rw [Int.natCast_zero, List.drop_zero, Ox (n := i) (by omega)] at this
   rw [this]
   refine ih k (i + 1) _ (by omega) (Qh2 _ _ h1) (fun x hx' => ?_) ?_ (by omega) h5 h6
   ·rcases (foldO_mem _ _ _).1 hx' with h' | ⟨m, hm, h0, rfl⟩
    ·exact h2 x h'
    ·have := hto m hm; omega
   ·obtain ⟨t, ht⟩ := Qh1 (mvs a.States o[i]) o
    rw [ht, List.length_append]; omega
  ·rw [if_neg hi] at h5 h6 ⊢
   rw [decide_eq_false (by omega), cF, send_of (by omega) h (Dt _ _), bS]
   dsimp only [withS]
   have := keep_l2 K a.Split.Of a.Split.Many a.Counts (Df (C5 a.States.length o) a.States) o (fun x hx => by rw [Lu]; exact h2 x hx) (by omega) o.length K 0 [] rfl (by omega) rfl (Nat.zero_le _)
   rw [Int.natCast_zero, List.drop_zero, List.nil_append] at this
   rw [this]
   congr 4
   exact funext fun x => Qbz _ _ _
theorem repeat_l1 (K : Nat) (n : Nat) (hn : n ≤ 256) : ∀ (q k i : Nat), n - i = q → q < k → 1 ≤ i → i ≤ n → Ul K k (i : Int) (List.replicate i (-1 : Int) ++ List.replicate (n - i) 0) = some (List.replicate n (-1)) := by
 intro q
 induction q using Nat.strongRecOn with
 | ind q ih =>
  intro k i hq hk h1 h2
  obtain ⟨k, rfl⟩ : ∃ q, k = q + 1 := ⟨k - 1, by omega⟩
  have hl : (List.replicate i (-1 : Int) ++ List.replicate (n - i) 0).length = n := by simp; omega
  rw [Ul]
  dsimp only
  rw [hl, Int.toNat_natCast]
  by_cases hi : i < n
  ·have e : IntKind.i64.wrap ((i : Int) + ((min i (n - i) : Nat) : Int)) = ((i + min i (n - i) : Nat) : Int) := by rw [w64 (by omega) (by omega)]; omega
   rw [decide_eq_true (by omega), cT, Xh ⟨by omega, by omega⟩, Xh ⟨by omega, by omega⟩, e]
   have hih := ih (n - (i + min i (n - i))) (by omega) k (i + min i (n - i)) rfl (by omega) (by omega) (by omega)
   rw [← hih]
   congr 1
   have e1 : (List.replicate i (-1 : Int) ++ List.replicate (n - i) 0).take i = List.replicate i (-1) := by
    rw [List.take_append_of_le_length (by simp), List.take_of_length_le (by simp)]
   have e2 : (List.replicate i (-1 : Int) ++ List.replicate (n - i) 0).take (min i (n - i)) = List.replicate (min i (n - i)) (-1) := by
    rw [List.take_append_of_le_length (by simp; omega), List.take_replicate]
    congr 1; omega
   have e3 : (List.replicate i (-1 : Int) ++ List.replicate (n - i) 0).drop (i + min i (n - i)) = List.replicate (n - (i + min i (n - i))) 0 := by
    rw [List.drop_append, List.drop_of_length_le (by simp), List.nil_append, List.drop_replicate]
    congr 1; simp; omega
   rw [e1, e2, e3, List.replicate_append_replicate]
  ·have : n = i := by omega
   subst this
   rw [decide_eq_false (by omega), cF]
   simp
theorem mul_ok : ∀ n : _root_.Fin 257, Qfs 0 (IntKind.u64.wrap 1) (IntKind.u64.wrap ((n.val : Nat) : Int)) = some (0, ((n.val : Nat) : Int)) := by decide +kernel
theorem repeat_ok (K : Nat) (n : Nat) (h1 : 1 ≤ n) (hn : n ≤ 256) (hK : 1000 ≤ K) : G0 K [(-1 : Int)] (n : Int) = some (List.replicate n (-1)) := by
 have hm : Qfs K (IntKind.u64.wrap (([(-1 : Int)].length : Nat) : Int)) (IntKind.u64.wrap (n : Int)) = some (0, (n : Int)) := mul_ok ⟨n, by omega⟩
 rw [G0, decide_eq_false (by omega), cF, hm, bS]
 dsimp only
 rw [decide_eq_false (by omega), cF, decide_eq_false (by omega), cF, w64 (by omega) (by omega), Xh (by omega), Xh (Yg.2 ⟨by simp only [maxLen]; omega, by omega⟩), Xh ⟨by simp, by simp; omega⟩, Int.toNat_natCast]
 have := repeat_l1 K n hn (n - 1) K 1 rfl (by omega) (by omega) h1
 rw [← this]
 congr 1
 simp
theorem keep_ok {K : Nat} (hK : 10000 ≤ K) {a : Ql} (h : RQ a) : Gx K ⟨a⟩ = some ⟨withS a (Po a.States)⟩ := by
 have h0 := h.n1
 have hn := h.n2
 have ho := Kn h.toOk (by omega)
 have hol := Qfj h.toOk (by omega)
 have := keep_l0 K hK h (a.States.length + 1) K 0 [0] (by omega) (List.nodup_cons.2 ⟨List.not_mem_nil, List.nodup_nil⟩) (fun x hx => by rw [List.mem_singleton.1 hx]; omega) (Nat.zero_le _) (by omega) (by rw [Z1] at hol; omega) ho.lt
 rw [Gx]
 dsimp only
 rw [repeat_ok K _ h0 hn (by omega), bS]
 have e : Xa (List.replicate a.States.length (-1 : Int)) 0 = some (-1) := by
  have := Zg (l := List.replicate a.States.length (-1 : Int)) (i := 0) (by rw [List.length_replicate]; omega)
  rw [List.getElem_replicate] at this
  exact this
 have e2 : (List.replicate a.States.length (-1 : Int)).set (Int.toNat 0) 0 = C5 a.States.length [0] := by
  have e3 : List.replicate a.States.length (-1 : Int) = C5 a.States.length [] := by
   refine List.ext_getElem (by rw [Dt, List.length_replicate]) fun i h1 h2 => ?_
   simp [C5]
  rw [e3]
  exact keepT_snoc (o := []) (by omega) List.not_mem_nil
 rw [e, bS, e2]
 exact this
end Go.Rv
namespace Go.Rv
def itB (n : Int) : List Int := Cx (itoaS n)
def decD : List Int → Int → Int
 | [], v => v
 | c :: l, v => decD l (10 * v + (c - 48))
def decV : List Int → Int
 | [] => 0
 | c :: l => if c = 45 then -(decD l 0) else decD (c :: l) 0
def itOk (n : Int) : Bool := decV (itB n) == n && (itB n).all (fun c => c == 45 || (decide (48 ≤ c) && decide (c ≤ 57))) && decide (1 ≤ (itB n).length) && decide ((itB n).length ≤ 4)
theorem itOk_all : ∀ n : _root_.Fin 601, itOk ((n.val : Int) - 1) = true := by decide +kernel
structure Qew (n : Int) : Prop where
 val : decV (itB n) = n
 dig : ∀ c ∈ itB n, c = 45 ∨ (48 ≤ c ∧ c ≤ 57)
 pos : 1 ≤ (itB n).length
 len : (itB n).length ≤ 4
theorem Rn {n : Int} (h0 : -1 ≤ n) (h1 : n < 600) : Qew n := by
 have := itOk_all ⟨(n + 1).toNat, by omega⟩
 dsimp only at this
 rw [show (((n + 1).toNat : Nat) : Int) - 1 = n by omega, itOk] at this
 simp only [Bool.and_eq_true, beq_iff_eq, decide_eq_true_eq, List.all_eq_true, Bool.or_eq_true] at this
 exact ⟨this.1.1.1, this.1.1.2, this.1.2, this.2⟩
def tok (n : Int) : List Int := itB n ++ [32]
def Qhk (l : List Nat) (m : Qe) : List Int := if m.To < 0 then tok (-1) else tok (l.getD m.To.toNat 0 : Int) ++ (m.Ops ++ tok (m.Ops.length : Int))
def Qe5 (l : List Nat) (s : Qa) : List Int := tok (s.R.length : Int) ++ ((s.R.map tok).flatten ++ ((s.Rule.map tok).flatten ++ (s.Next.flatten.map (Qhk l)).flatten))
theorem cut_eq {d : Int} : ∀ (A B u v : List Int), d ∉ A → d ∉ B → A ++ d :: u = B ++ d :: v → A = B ∧ u = v := by
 intro A
 induction A with
 | nil =>
  intro B u v _ hB h
  cases B with
  | nil => rw [List.nil_append, List.nil_append] at h; exact ⟨rfl, (List.cons.inj h).2⟩
  | cons b B => rw [List.nil_append, List.cons_append] at h; exact absurd (List.mem_cons.2 (.inl (List.cons.inj h).1)) hB
 | cons a A ih =>
  intro B u v hA hB h
  cases B with
  | nil => rw [List.nil_append, List.cons_append] at h; exact absurd (List.mem_cons.2 (.inl (List.cons.inj h).1.symm)) hA
  | cons b B =>
   rw [List.cons_append, List.cons_append] at h
   obtain ⟨h1, h2⟩ := List.cons.inj h
   obtain ⟨h3, h4⟩ := ih B u v (fun h => hA (List.mem_cons_of_mem _ h)) (fun h => hB (List.mem_cons_of_mem _ h)) h2
   exact ⟨by rw [h1, h3], h4⟩
theorem it_no {n : Int} (h : Qew n) {d : Int} (hd : d = 32 ∨ d = 58) : d ∉ itB n := fun hm => by
 have := h.dig d hm
 omega
theorem it_inj {a b : Int} (ha : Qew a) (hb : Qew b) (h : itB a = itB b) : a = b := by
 rw [← ha.val, ← hb.val, h]
theorem Qdp {a b : Int} (ha : Qew a) (hb : Qew b) {u v : List Int} (h : tok a ++ u = tok b ++ v) : a = b ∧ u = v := by
 rw [tok, tok, List.append_assoc, List.append_assoc] at h
 obtain ⟨h1, h2⟩ := cut_eq _ _ _ _ (it_no ha (.inl rfl)) (it_no hb (.inl rfl)) h
 exact ⟨it_inj ha hb h1, h2⟩
theorem toks_cut : ∀ (x y : List Int), x.length = y.length → (∀ n ∈ x, Qew n) → (∀ n ∈ y, Qew n) → ∀ (u v : List Int), (x.map tok).flatten ++ u = (y.map tok).flatten ++ v → x = y ∧ u = v := by
 intro x
 induction x with
 | nil =>
  intro y hl _ _ u v h
  cases y with
  | nil => exact ⟨rfl, h⟩
  | cons b y => simp at hl
 | cons a x ih =>
  intro y hl hx hy u v h
  cases y with
  | nil => simp at hl
  | cons b y =>
   simp only [List.map_cons, List.flatten_cons, List.append_assoc] at h
   obtain ⟨h1, h2⟩ := Qdp (hx a List.mem_cons_self) (hy b List.mem_cons_self) h
   obtain ⟨h3, h4⟩ := ih y (by simpa using hl) (fun n hn => hx n (List.mem_cons_of_mem _ hn)) (fun n hn => hy n (List.mem_cons_of_mem _ hn)) u v h2
   exact ⟨by rw [h1, h3], h4⟩
theorem tok_head {n : Int} (h : Qew n) (u : List Int) : ∃ c t, tok n ++ u = c :: t ∧ 45 ≤ c := by
 have hp := h.pos
 have hd := h.dig
 rw [tok]
 cases hq : itB n with
 | nil => rw [hq] at hp; simp at hp
 | cons c t =>
  rw [hq] at hd
  refine ⟨c, t ++ ([32] ++ u), by simp, ?_⟩
  have := hd c List.mem_cons_self
  omega
theorem ops_cut : ∀ (O P : List Int), (∀ c ∈ O, c ≤ 3) → (∀ c ∈ P, c ≤ 3) → ∀ (a b : Int), Qew a → Qew b → ∀ u v, O ++ (tok a ++ u) = P ++ (tok b ++ v) → O = P ∧ tok a ++ u = tok b ++ v := by
 intro O
 induction O with
 | nil =>
  intro P _ hP a b ha hb u v h
  cases P with
  | nil => exact ⟨rfl, h⟩
  | cons p P =>
   obtain ⟨c, t, e, hc⟩ := tok_head ha u
   rw [List.nil_append, e, List.cons_append] at h
   have h1 := hP p List.mem_cons_self
   have h2 := (List.cons.inj h).1
   omega
 | cons o O ih =>
  intro P hO hP a b ha hb u v h
  cases P with
  | nil =>
   obtain ⟨c, t, e, hc⟩ := tok_head hb v
   rw [List.nil_append, e, List.cons_append] at h
   have h1 := hO o List.mem_cons_self
   have h2 := (List.cons.inj h).1
   omega
  | cons p P =>
   rw [List.cons_append, List.cons_append] at h
   obtain ⟨h1, h2⟩ := List.cons.inj h
   obtain ⟨h3, h4⟩ := ih P (fun c hc => hO c (List.mem_cons_of_mem _ hc)) (fun c hc => hP c (List.mem_cons_of_mem _ hc)) a b ha hb u v h2
   exact ⟨by rw [h1, h3], h4⟩
def mvOkL (l : List Nat) (m : Qe) : Prop := (∀ c ∈ m.Ops, 1 ≤ c ∧ c ≤ 3) ∧ m.Ops.length ≤ 3 ∧ l.getD m.To.toNat 0 < 500
theorem mtok_cut {l : List Nat} {m n : Qe} (hm : mvOkL l m) (hn : mvOkL l n) {u v : List Int} (h : Qhk l m ++ u = Qhk l n ++ v) : keyM l m = keyM l n ∧ u = v := by
 obtain ⟨m1, m2, m3⟩ := hm
 obtain ⟨n1, n2, n3⟩ := hn
 have i0 : Qew (-1) := Rn (by omega) (by omega)
 have i1 : Qew (l.getD m.To.toNat 0 : Int) := Rn (by omega) (by omega)
 have i2 : Qew (l.getD n.To.toNat 0 : Int) := Rn (by omega) (by omega)
 rw [Qhk, Qhk] at h
 rw [keyM, keyM]
 by_cases h1 : m.To < 0 <;> by_cases h2 : n.To < 0
 ·rw [if_pos h1, if_pos h2] at h ⊢
  exact ⟨rfl, (Qdp i0 i0 h).2⟩
 ·rw [if_pos h1, if_neg h2, List.append_assoc] at h
  have := (Qdp i0 i2 h).1
  omega
 ·rw [if_neg h1, if_pos h2, List.append_assoc] at h
  have := (Qdp i1 i0 h).1
  omega
 ·rw [if_neg h1, if_neg h2] at h ⊢
  simp only [List.append_assoc] at h
  obtain ⟨g1, g2⟩ := Qdp i1 i2 h
  have j1 : Qew (m.Ops.length : Int) := Rn (by omega) (by omega)
  have j2 : Qew (n.Ops.length : Int) := Rn (by omega) (by omega)
  obtain ⟨g3, g4⟩ := ops_cut _ _ (fun c hc => (m1 c hc).2) (fun c hc => (n1 c hc).2) _ _ j1 j2 _ _ g2
  exact ⟨by rw [g3, show l.getD m.To.toNat 0 = l.getD n.To.toNat 0 by omega], (Qdp j1 j2 g4).2⟩
theorem mtok_of {l : List Nat} {m n : Qe} (h : keyM l m = keyM l n) : Qhk l m = Qhk l n := by
 rw [keyM, keyM] at h
 rw [Qhk, Qhk]
 by_cases h1 : m.To < 0 <;> by_cases h2 : n.To < 0
 ·rw [if_pos h1, if_pos h2]
 ·rw [if_pos h1, if_neg h2] at h; cases h
 ·rw [if_neg h1, if_pos h2] at h; cases h
 ·rw [if_neg h1, if_neg h2] at h ⊢
  simp only [Option.some.injEq, Prod.mk.injEq] at h
  rw [h.1, h.2]
theorem mtoks_cut {l : List Nat} : ∀ (x y : List Qe), x.length = y.length → (∀ m ∈ x, mvOkL l m) → (∀ m ∈ y, mvOkL l m) → (x.map (Qhk l)).flatten = (y.map (Qhk l)).flatten → x.map (keyM l) = y.map (keyM l) := by
 intro x
 induction x with
 | nil =>
  intro y hl _ _ h
  cases y with
  | nil => rfl
  | cons b y => simp at hl
 | cons a x ih =>
  intro y hl hx hy h
  cases y with
  | nil => simp at hl
  | cons b y =>
   simp only [List.map_cons, List.flatten_cons] at h ⊢
   obtain ⟨h1, h2⟩ := mtok_cut (hx a List.mem_cons_self) (hy b List.mem_cons_self) h
   rw [h1, ih y (by simpa using hl) (fun n hn => hx n (List.mem_cons_of_mem _ hn)) (fun n hn => hy n (List.mem_cons_of_mem _ hn)) h2]
theorem mtoks_of {l : List Nat} {x y : List Qe} (h : x.map (keyM l) = y.map (keyM l)) : x.map (Qhk l) = y.map (Qhk l) := by
 have hl : x.length = y.length := by have := congrArg List.length h; simpa using this
 refine List.ext_getElem (by simpa using hl) fun k k1 k2 => ?_
 rw [List.getElem_map, List.getElem_map]
 refine mtok_of ?_
 have := congrArg (fun q => q[k]?) h
 rw [List.length_map] at k1 k2
 simpa [k1, k2] using this
def keyL (S : List Qa) (l : List Nat) (i : Nat) : List Int := if i = 0 then [102, 105, 114, 115, 116] else itB (l.getD i 0 : Int) ++ 58 :: Qe5 l (stA S i)
structure Qgs (a : Ql) (l : List Nat) : Prop where
 len : l.length = a.States.length
 lt : ∀ x ∈ l, x < 500
theorem Qgs.get {a : Ql} {l : List Nat} (h : Qgs a l) (i : Nat) : l.getD i 0 < 500 := by
 by_cases hi : i < l.length
 ·rw [Zc hi]; exact h.lt _ (List.getElem_mem hi)
 ·rw [getD_far (by omega)]; omega
theorem RQ.mvL {a : Ql} (h : RQ a) {l : List Nat} (hl : Qgs a l) {i : Nat} (hi : i < a.States.length) : ∀ m ∈ Go.Rv.mvs a.States i, mvOkL l m := fun m hm => by
 have hs := h.small (List.getElem_mem hi)
 have hq := h.mvs hi hm
 rw [Go.Rv.mvs, M5 hi] at hm
 obtain ⟨r, hr, hm'⟩ := List.mem_flatten.1 hm
 refine ⟨fun c hc => ?_, hs.ops r hr m hm', hl.get _⟩
 rcases hq with ⟨_, h2⟩ | ⟨_, _, _, h4⟩
 ·rw [h2] at hc; cases hc
 ·obtain ⟨j, hj, rfl⟩ := List.getElem_of_mem hc
  exact ⟨(h4 j hj).1, (h4 j hj).2.1⟩
theorem risesF_mem {below : Int} : ∀ (l : List Int) (last : Int), T0 below last l = true → ∀ x ∈ l, last < x ∧ x < below := by
 intro l
 induction l with
 | nil => intro last _ x hx; cases hx
 | cons n l ih =>
  intro last h x hx
  simp only [T0, Bool.and_eq_true, Bool.not_eq_true', decide_eq_false_iff_not] at h
  rcases List.mem_cons.1 hx with rfl | hx
  ·omega
  ·have := ih n h.2.2 x hx; omega
theorem StQ.rIt {n : Nat} {many : Int} {S : List Qa} {s : Qa} (h : StQ n many S s) (hn : n ≤ 512) : ∀ x ∈ s.R, Qew x := fun x hx => by
 have := risesF_mem s.R (-1) h.r x hx
 exact Rn (by omega) (by omega)
theorem StQ.ruleIt {n : Nat} {many : Int} {S : List Qa} {s : Qa} (h : StQ n many S s) : ∀ x ∈ s.Rule, Qew x := fun x hx => by
 have := h.rule x hx
 exact Rn (by omega) (by omega)
theorem sum_const : ∀ (l : List Nat) (c : Nat), (∀ x ∈ l, x = c) → l.sum = l.length * c := by
 intro l
 induction l with
 | nil => intro c _; simp
 | cons x l ih =>
  intro c h
  rw [List.sum_cons, ih c fun y hy => h y (List.mem_cons_of_mem _ hy), h x List.mem_cons_self, List.length_cons, Nat.add_mul]
  omega
theorem StQ.mvsLen {n : Nat} {many : Int} {S : List Qa} {s t : Qa} (hs : StQ n many S s) (ht : StQ n many S t) (hr : s.R.length = t.R.length) : s.Rule.length = t.Rule.length ∧ s.Next.length = t.Next.length ∧ s.Next.flatten.length = t.Next.flatten.length := by
 have e1 := hs.rl
 have e2 := ht.rl
 have e3 := hs.nl
 have e4 := ht.nl
 rw [hr] at e1 e3
 have f : ∀ u : Qa, StQ n many S u → u.Next.flatten.length = u.Next.length * many.toNat := fun u hu => by
  have := sum_const (u.Next.map List.length) many.toNat fun x hx => by
   obtain ⟨r, hr, rfl⟩ := List.mem_map.1 hx
   have := hu.row r hr
   omega
  rw [List.length_flatten, this, List.length_map]
 have e5 : s.Next.length = t.Next.length := by omega
 exact ⟨by omega, e5, by rw [f s hs, f t ht, e5]⟩
theorem sign_cut {a : Ql} (h : RQ a) {l : List Nat} (hl : Qgs a l) {i j : Nat} (hi : i < a.States.length) (hj : j < a.States.length) (he : Qe5 l (stA a.States i) = Qe5 l (stA a.States j)) : (stA a.States i).R = (stA a.States j).R ∧ (stA a.States i).Rule = (stA a.States j).Rule ∧ (mvs a.States i).map (keyM l) = (mvs a.States j).map (keyM l) := by
 have gi := h.st _ (List.getElem_mem hi)
 have gj := h.st _ (List.getElem_mem hj)
 have si := h.small (List.getElem_mem hi)
 have sj := h.small (List.getElem_mem hj)
 have mi := h.mvL hl hi
 have mj := h.mvL hl hj
 rw [mvs] at mi mj
 rw [mvs, mvs]
 rw [← M5 hi] at gi si
 rw [← M5 hj] at gj sj
 have ri := si.r
 have rj := sj.r
 have hcl := h.cl
 rw [Qe5, Qe5] at he
 obtain ⟨h1, h2⟩ := Qdp (Rn (by omega) (by omega)) (Rn (by omega) (by omega)) he
 have hr : (stA a.States i).R.length = (stA a.States j).R.length := by omega
 obtain ⟨l1, l2, l3⟩ := gi.mvsLen gj hr
 obtain ⟨h3, h4⟩ := toks_cut _ _ hr (gi.rIt hcl) (gj.rIt hcl) _ _ h2
 obtain ⟨h5, h6⟩ := toks_cut _ _ l1 gi.ruleIt gj.ruleIt _ _ h4
 exact ⟨h3, h5, mtoks_cut _ _ l3 mi mj h6⟩
theorem keyL_eq {a : Ql} (h : RQ a) {l : List Nat} (hl : Qgs a l) {i j : Nat} (hi : i < a.States.length) (hj : j < a.States.length) : keyL a.States l i = keyL a.States l j ↔ keyS a.States l i = keyS a.States l j := by
 have oi : Qew (l.getD i 0 : Int) := Rn (by omega) (by have := hl.get i; omega)
 have oj : Qew (l.getD j 0 : Int) := Rn (by omega) (by have := hl.get j; omega)
 have hne : ∀ {n : Int} (u : List Int), Qew n → ([102, 105, 114, 115, 116] : List Int) ≠ itB n ++ 58 :: u := fun {n} u hn he => by
  have hp := hn.pos
  have hd := hn.dig
  cases hq : itB n with
  | nil => rw [hq] at hp; simp at hp
  | cons c t =>
   rw [hq] at hd he
   have h1 := hd c List.mem_cons_self
   have h2 := (List.cons.inj he).1
   omega
 rw [keyL, keyL, keyS, keyS]
 by_cases h1 : i = 0 <;> by_cases h2 : j = 0
 ·rw [if_pos h1, if_pos h2, if_pos h1, if_pos h2]; simp
 ·rw [if_pos h1, if_neg h2, if_pos h1, if_neg h2]
  exact ⟨fun he => absurd he (hne _ oj), fun he => by cases he⟩
 ·rw [if_neg h1, if_pos h2, if_neg h1, if_pos h2]
  exact ⟨fun he => absurd he.symm (hne _ oi), fun he => by cases he⟩
 ·rw [if_neg h1, if_neg h2, if_neg h1, if_neg h2]
  simp only [Option.some.injEq, Prod.mk.injEq]
  constructor
  ·intro he
   obtain ⟨g1, g2⟩ := cut_eq _ _ _ _ (it_no oi (.inr rfl)) (it_no oj (.inr rfl)) he
   have g3 := it_inj oi oj g1
   exact ⟨by omega, sign_cut h hl hi hj g2⟩
  ·rintro ⟨g1, g2, g3, g4⟩
   have g5 := mtoks_of g4
   rw [mvs, mvs] at g5
   rw [g1, Qe5, Qe5, g2, g3, g5]
end Go.Rv
namespace Go.Rv
theorem ba_beq (a b : ByteArray) : (a == b) = decide (a = b) := by
 cases a with | mk a => cases b with | mk b =>
 show (a == b) = _
 rw [Bool.eq_iff_iff, decide_eq_true_eq, beq_iff_eq]
 constructor
 ·rintro rfl; rfl
 ·intro h; cases h; rfl
instance : LawfulBEq ByteArray where
 eq_of_beq {a b} h := by rw [ba_beq] at h; exact of_decide_eq_true h
 rfl {a} := by rw [ba_beq]; exact decide_eq_true rfl
theorem Qgj (a b : ByteArray) : Cx (a ++ b) = Cx a ++ Cx b := by
 simp only [Cx, ByteArray.data_append, Array.toList_append, List.map_append]
theorem bytesI_of {xs : List Int} (h : Lj xs = true) : Cx (ofBytes xs) = xs := by
 obtain ⟨l, rfl⟩ := okBytes_of h
 rw [Qgv]
 rfl
theorem bytesI_inj {a b : ByteArray} (h : Cx a = Cx b) : a = b := by
 have h1 : a.data.toList = b.data.toList := (List.map_inj_right (fun x y (e : ((x.toNat : Nat) : Int) = (y.toNat : Nat)) => UInt8.toNat_inj.1 (by omega))).1 h
 cases a with | mk a => cases b with | mk b =>
 have h2 : a = b := Array.ext' h1
 rw [h2]
theorem Qgu {a b : List Int} (ha : Lj a = true) (hb : Lj b = true) : Lj (a ++ b) = true := by
 rw [Lj, List.all_append, Bool.and_eq_true]
 exact ⟨ha, hb⟩
theorem ok_of {a : List Int} (h : ∀ c ∈ a, 0 ≤ c ∧ c < 256) : Lj a = true := by
 rw [Lj, List.all_eq_true]
 intro c hc
 obtain ⟨h1, h2⟩ := h c hc
 rw [decide_eq_true h1, decide_eq_true h2]
 rfl
theorem Qht {n : Int} (h : Qew n) : Lj (tok n) = true := by
 refine ok_of fun c hc => ?_
 rcases List.mem_append.1 hc with hc | hc
 ·have := h.dig c hc; omega
 ·rw [List.mem_singleton.1 hc]; omega
theorem Sw {n : Int} (h : Qew n) : (tok n).length ≤ 5 := by
 have := h.len
 rw [tok, List.length_append, List.length_singleton]; omega
theorem it_size {n : Int} (h : Qew n) : (itoaS n).size ≤ 4 := by
 have := h.len
 rw [itB, Qgi] at this
 exact this
theorem put1 {K : Nat} {n : Int} (h0 : -1 ≤ n) (h1 : n < 600) {acc : List Int} (hl : acc.length ≤ 1000000) : Jd K n acc = some (acc ++ tok n) := by
 have hs := it_size (Rn h0 h1)
 have e : Cx (⟨#[32]⟩ : ByteArray) = [32] := rfl
 have hsz : (itoaS n ++ (⟨#[32]⟩ : ByteArray)).size ≤ 5 := by rw [ByteArray.size_append]; show (itoaS n).size + 1 ≤ 5; omega
 rw [Jd, strconv_Itoa, if_pos (by omega), bS, Xh (by show (itoaS n).size + 1 ≤ 9223372036854775807; omega), Vk, Yu, bS, Xh (Yg.2 ⟨by simp only [maxLen]; omega, by omega⟩), bS]
 dsimp only
 rw [Qgj, e]
 rfl
theorem put0 {K : Nat} {n : Int} (h0 : -1 ≤ n) (h1 : n < 600) : Ss K n [] = some (tok n) := put1 (acc := []) h0 h1 (by simp)
theorem mtok_ok {l : List Nat} {m : Qe} (h : mvOkL l m) : Lj (Qhk l m) = true ∧ (Qhk l m).length ≤ 13 := by
 obtain ⟨h1, h2, h3⟩ := h
 have i0 : Qew (-1) := Rn (by omega) (by omega)
 have i1 : Qew (l.getD m.To.toNat 0 : Int) := Rn (by omega) (by omega)
 have j1 : Qew (m.Ops.length : Int) := Rn (by omega) (by omega)
 rw [Qhk]
 split
 ·exact ⟨Qht i0, by have := Sw i0; omega⟩
 ·refine ⟨Qgu (Qht i1) (Qgu (ok_of fun c hc => by have := h1 c hc; omega) (Qht j1)), ?_⟩
  have := Sw i1
  have := Sw j1
  rw [List.length_append, List.length_append]; omega
theorem Qfr {l : List Nat} {i : Nat} (h : i < l.length) : Xa (We l) (i : Int) = some ((l.getD i 0 : Nat) : Int) := by
 rw [Zg (by rw [We, List.length_map]; exact h), Zc h]
 simp [We]
theorem sign_l2 (K : Nat) (l : List Nat) (ms : List Qe) (hl : ms.length ≤ 7000) (hm : ∀ m ∈ ms, mvOkL l m ∧ m.To < l.length) : ∀ (q k j : Nat) (acc : List Int), ms.length - j = q → q < k → 0 < acc.length → acc.length ≤ 1000 + 13 * j → Lj acc = true →
  Lm K k ms (ms.length : Int) (j : Int) (We l) acc = some (ofBytes (acc ++ ((ms.drop j).map (Qhk l)).flatten)) := by
 intro q
 induction q with
 | zero =>
  intro k j acc hq hk h0 h1 h2
  obtain ⟨k, rfl⟩ : ∃ q, k = q + 1 := ⟨k - 1, by omega⟩
  rw [Lm]
  dsimp only
  rw [decide_eq_false (by omega), cF, List.drop_eq_nil_of_le (by omega), Xh h0, Xh h2, List.map_nil, List.flatten_nil, List.append_nil]
 | succ q ih =>
  intro k j acc hq hk h0 h1 h2
  obtain ⟨k, rfl⟩ : ∃ q, k = q + 1 := ⟨k - 1, by omega⟩
  have hj : j < ms.length := by omega
  obtain ⟨hmv, hto⟩ := hm _ (List.getElem_mem hj)
  have hw := Ox (n := j) (by omega)
  have hlt : (j : Int) < (ms.length : Int) := by omega
  obtain ⟨o1, o2⟩ := mtok_ok hmv
  have hih := ih k (j + 1) (acc ++ Qhk l ms[j]) (by omega) (by omega) (by rw [List.length_append]; omega) (by rw [List.length_append]; omega) (Qgu h2 o1)
  rw [Lm]
  dsimp only
  rw [decide_eq_true hlt, cT, Zg hj, bS, List.drop_eq_getElem_cons hj, List.map_cons, List.flatten_cons, ← List.append_assoc, ← hih, hw]
  generalize ms[j] = m at *
  obtain ⟨g1, g2, g3⟩ := hmv
  by_cases h3 : m.To < 0
  ·rw [decide_eq_true h3, cT, put1 (by omega) (by omega) (by omega), bS, Qhk, if_pos h3]
  ·obtain ⟨x, hx⟩ : ∃ x : Nat, m.To = (x : Int) := ⟨m.To.toNat, by omega⟩
   have hl1 := Sw (Rn (n := (l.getD x 0 : Int)) (by omega) (by rw [hx, Int.toNat_natCast] at g3; omega))
   have hx2 : l.getD x 0 < 500 := by rw [hx, Int.toNat_natCast] at g3; exact g3
   rw [decide_eq_false h3, cF, Qhk, if_neg h3, hx, Int.toNat_natCast, Qfr (by omega), bS, put1 (by omega) (by omega) (by omega), bS, Hs, Yu, bS, Xh (Yg.2 ⟨by simp only [maxLen, List.length_append]; omega, by simp only [List.length_append]; omega⟩), bS]
   dsimp only
   rw [put1 (by omega) (by omega) (by simp only [List.length_append]; omega), bS]
   simp only [List.append_assoc]
theorem sign_l1 (K : Nat) (l : List Nat) (s : Qa) (hs : Ou s) (hK : 10000 ≤ K) (hr : ∀ x ∈ s.Rule, -1 ≤ x ∧ x < 600) (hm : ∀ m ∈ s.Next.flatten, mvOkL l m ∧ m.To < l.length) : ∀ (q k j : Nat) (acc : List Int), s.Rule.length - j = q → q < k → 0 < acc.length → acc.length ≤ 100 + 5 * j → j ≤ s.Rule.length → Lj acc = true →
  K6 K k s (s.Rule.length : Int) (j : Int) (We l) acc = some (ofBytes (acc ++ (((s.Rule.drop j).map tok).flatten ++ (s.Next.flatten.map (Qhk l)).flatten))) := by
 have hn := hs.next
 have hf := hs.flat
 have hrl := hs.rule
 intro q
 induction q with
 | zero =>
  intro k j acc hq hk h0 h1 hj h2
  obtain ⟨k, rfl⟩ : ∃ q, k = q + 1 := ⟨k - 1, by omega⟩
  rw [K6]
  dsimp only
  have := sign_l2 K l s.Next.flatten (by omega) hm s.Next.flatten.length K 0 acc rfl (by omega) h0 (by omega) h2
  rw [Int.natCast_zero, List.drop_zero] at this
  rw [decide_eq_false (by omega), cF, List.drop_eq_nil_of_le (by omega), moves_eq K s (by omega) (by omega) (by omega), bS, this, List.map_nil, List.flatten_nil, List.nil_append]
 | succ q ih =>
  intro k j acc hq hk h0 h1 hjl h2
  obtain ⟨k, rfl⟩ : ∃ q, k = q + 1 := ⟨k - 1, by omega⟩
  have hj : j < s.Rule.length := by omega
  obtain ⟨g1, g2⟩ := hr _ (List.getElem_mem hj)
  have hlt : (j : Int) < (s.Rule.length : Int) := by omega
  have hit := Rn g1 g2
  have := Sw hit
  rw [K6]
  dsimp only
  rw [decide_eq_true hlt, cT, Zg hj, bS, put1 g1 g2 (by omega), bS, Ox (n := j) (by omega), ih k (j + 1) _ (by omega) (by omega) (by rw [List.length_append]; omega) (by rw [List.length_append]; omega) (by omega) (Qgu h2 (Qht hit)), List.drop_eq_getElem_cons hj, List.map_cons, List.flatten_cons]
  simp only [List.append_assoc]
theorem sign_l0 (K : Nat) (l : List Nat) (s : Qa) (hs : Ou s) (hK : 10000 ≤ K) (hR : ∀ x ∈ s.R, -1 ≤ x ∧ x < 600) (hr : ∀ x ∈ s.Rule, -1 ≤ x ∧ x < 600) (hm : ∀ m ∈ s.Next.flatten, mvOkL l m ∧ m.To < l.length) : ∀ (q k j : Nat) (acc : List Int), s.R.length - j = q → q < k → 0 < acc.length → acc.length ≤ 5 + 5 * j → j ≤ s.R.length → Lj acc = true →
  K7 K k s (s.R.length : Int) (j : Int) (We l) acc = some (ofBytes (acc ++ (((s.R.drop j).map tok).flatten ++ ((s.Rule.map tok).flatten ++ (s.Next.flatten.map (Qhk l)).flatten)))) := by
 have hn := hs.r
 have hrl := hs.rule
 intro q
 induction q with
 | zero =>
  intro k j acc hq hk h0 h1 hj h2
  obtain ⟨k, rfl⟩ : ∃ q, k = q + 1 := ⟨k - 1, by omega⟩
  rw [K7]
  dsimp only
  have := sign_l1 K l s hs hK hr hm s.Rule.length K 0 acc rfl (by omega) h0 (by omega) (by omega) h2
  rw [Int.natCast_zero, List.drop_zero] at this
  rw [decide_eq_false (by omega), cF, List.drop_eq_nil_of_le (by omega), this, List.map_nil, List.flatten_nil, List.nil_append]
 | succ q ih =>
  intro k j acc hq hk h0 h1 hjl h2
  obtain ⟨k, rfl⟩ : ∃ q, k = q + 1 := ⟨k - 1, by omega⟩
  have hj : j < s.R.length := by omega
  obtain ⟨g1, g2⟩ := hR _ (List.getElem_mem hj)
  have hlt : (j : Int) < (s.R.length : Int) := by omega
  have hit := Rn g1 g2
  have := Sw hit
  rw [K7]
  dsimp only
  rw [decide_eq_true hlt, cT, Zg hj, bS, put1 g1 g2 (by omega), bS, Ox (n := j) (by omega), ih k (j + 1) _ (by omega) (by omega) (by rw [List.length_append]; omega) (by rw [List.length_append]; omega) (by omega) (Qgu h2 (Qht hit)), List.drop_eq_getElem_cons hj, List.map_cons, List.flatten_cons]
  simp only [List.append_assoc]
theorem sign_ok {K : Nat} (hK : 10000 ≤ K) {a : Ql} (h : RQ a) {l : List Nat} (hl : Qgs a l) {i : Nat} (hi : i < a.States.length) : Qbp K a.States[i] (We l) = some (ofBytes (Qe5 l (stA a.States i))) := by
 have hs := h.small (List.getElem_mem hi)
 have hq := h.st _ (List.getElem_mem hi)
 have hm := h.mvL hl hi
 have hto := h.toOk i hi
 have hr := hs.r
 have hcl := h.cl
 rw [mvs, M5 hi] at hm
 rw [mvs, M5 hi] at hto
 have i0 : Qew (a.States[i].R.length : Int) := Rn (by omega) (by omega)
 have := sign_l0 K l a.States[i] hs hK (fun x hx => by have := risesF_mem _ (-1) hq.r x hx; omega) (fun x hx => by have := hq.rule x hx; omega) (fun m hm' => ⟨hm m hm', by rw [hl.len]; exact hto m hm'⟩) a.States[i].R.length K 0 (tok (a.States[i].R.length : Int)) rfl (by omega) (by rw [tok, List.length_append, List.length_singleton]; omega) (Sw i0) (Nat.zero_le _) (Qht i0)
 rw [Int.natCast_zero, List.drop_zero] at this
 rw [Qbp, put0 (by omega) (by omega), bS, this, Qe5, M5 hi]
/- The map. -/
def Qfm (U : List ByteArray) : List (ByteArray × Int) := (U.zipIdx).map fun p => (p.1, (p.2 : Int))
theorem Qhz (U : List ByteArray) (k : ByteArray) : Qfm (U ++ [k]) = Qfm U ++ [(k, (U.length : Int))] := by
 simp [Qfm, List.zipIdx_append]
theorem knownM_len (U : List ByteArray) : (Qfm U).length = U.length := by simp [Qfm]
theorem lookup_app {α β : Type} [BEq α] [LawfulBEq α] (x : α) : ∀ (A B : List (α × β)), (A ++ B).lookup x = (A.lookup x).or (B.lookup x) := by
 intro A
 induction A with
 | nil => intro B; rfl
 | cons p A ih =>
  intro B
  rw [List.cons_append, List.lookup_cons, List.lookup_cons]
  cases x == p.1 with
  | true => rfl
  | false => exact ih B
def posK {κ : Type} [DecidableEq κ] (U : List κ) (x : κ) : Nat := U.idxOf x
theorem posK_in {κ : Type} [DecidableEq κ] {V W : List κ} {x : κ} (h : x ∈ V) : posK (V ++ W) x = posK V x := by rw [posK, posK, List.idxOf_append, if_pos h]
theorem posK_new {κ : Type} [DecidableEq κ] {V : List κ} {x : κ} (h : x ∉ V) : posK (V ++ [x]) x = V.length := by rw [posK, List.idxOf_append, if_neg h]; simp
theorem posK_lt {κ : Type} [DecidableEq κ] {U : List κ} {x : κ} (h : x ∈ U) : posK U x < U.length := List.idxOf_lt_length_iff.2 h
theorem dealF_cons {κ : Type} [DecidableEq κ] (U : List κ) (k : κ) (l : List κ) : Ro U (k :: l) = posK (Qfu U k) k :: Ro (Qfu U k) l := rfl
theorem look_rev (x : ByteArray) : ∀ (q : Nat) (U : List ByteArray), U.length = q → (Qfm U).lookup x = if x ∈ U then some ((posK U x : Nat) : Int) else none := by
 intro q
 induction q with
 | zero => intro U hU; rw [List.length_eq_zero_iff.1 hU]; rfl
 | succ q ih =>
  intro U hU
  rcases List.eq_nil_or_concat U with rfl | ⟨V, k, rfl⟩
  ·simp at hU
  ·rw [List.concat_eq_append] at hU ⊢
   rw [Qhz, lookup_app, ih V (by simpa using hU)]
   by_cases hx : x ∈ V
   ·rw [if_pos hx, if_pos (List.mem_append.2 (.inl hx)), posK_in hx]
    rfl
   ·rw [if_neg hx, Option.none_or, List.lookup_cons]
    by_cases hk : x = k
    ·subst hk
     rw [if_pos (List.mem_append.2 (.inr (List.mem_singleton.2 rfl))), beq_self_eq_true, posK_new hx]
    ·rw [if_neg (fun hc => by
      rcases List.mem_append.1 hc with hc | hc
      ·exact hx hc
      ·exact hk (List.mem_singleton.1 hc)), beq_eq_false_iff_ne.2 hk]
     rfl
theorem look (x : ByteArray) (U : List ByteArray) : (Qfm U).lookup x = if x ∈ U then some ((posK U x : Nat) : Int) else none := look_rev x U.length U rfl
def Qhm (S : List Qa) (l : List Nat) (i : Nat) : ByteArray := if i = 0 then ⟨#[102, 105, 114, 115, 116]⟩ else (itoaS (l.getD i 0 : Int) ++ (⟨#[58]⟩ : ByteArray)) ++ ofBytes (Qe5 l (stA S i))
def Iy (S : List Qa) (l : List Nat) : List ByteArray := (List.range S.length).map (Qhm S l)
theorem sign_bytes {a : Ql} (h : RQ a) {l : List Nat} (hl : Qgs a l) {i : Nat} (hi : i < a.States.length) : Lj (Qe5 l (stA a.States i)) = true ∧ (Qe5 l (stA a.States i)).length ≤ 100000 := by
 have hs := h.small (List.getElem_mem hi)
 have hq := h.st _ (List.getElem_mem hi)
 have hm := h.mvL hl hi
 rw [mvs] at hm
 rw [← M5 hi] at hs hq
 have hr := hs.r
 have hrl := hs.rule
 have hcl := h.cl
 have hfl := hs.flat
 have i0 : Qew ((stA a.States i).R.length : Int) := Rn (by omega) (by omega)
 have f : ∀ (xs : List Int), (∀ x ∈ xs, Qew x) → Lj (xs.map tok).flatten = true ∧ (xs.map tok).flatten.length ≤ xs.length * 5 := fun xs hx => by
  refine ⟨ok_of fun c hc => ?_, ?_⟩
  ·obtain ⟨r, hr, hc⟩ := List.mem_flatten.1 hc
   obtain ⟨x, hx', rfl⟩ := List.mem_map.1 hr
   rcases List.mem_append.1 hc with hc | hc
   ·have := (hx x hx').dig c hc; omega
   ·rw [List.mem_singleton.1 hc]; omega
  ·have := rows_len (xs.map tok) (c := 5) fun r hr => by
    obtain ⟨x, hx', rfl⟩ := List.mem_map.1 hr
    exact Sw (hx x hx')
   rw [List.length_map] at this
   exact this
 obtain ⟨a1, a2⟩ := f _ (hq.rIt hcl)
 obtain ⟨b1, b2⟩ := f _ hq.ruleIt
 have c1 : Lj ((stA a.States i).Next.flatten.map (Qhk l)).flatten = true := by
  rw [Lj, List.all_eq_true]
  intro c hc
  obtain ⟨r, hr, hc⟩ := List.mem_flatten.1 hc
  obtain ⟨m, hm', rfl⟩ := List.mem_map.1 hr
  exact List.all_eq_true.1 (mtok_ok (hm m hm')).1 c hc
 have c2 := rows_len ((stA a.States i).Next.flatten.map (Qhk l)) (c := 13) fun r hr => by
  obtain ⟨m, hm', rfl⟩ := List.mem_map.1 hr
  exact (mtok_ok (hm m hm')).2
 rw [List.length_map] at c2
 have := Sw i0
 rw [Qe5]
 refine ⟨Qgu (Qht i0) (Qgu a1 (Qgu b1 c1)), ?_⟩
 simp only [List.length_append]
 omega
theorem keyB_bytes {a : Ql} (h : RQ a) {l : List Nat} (hl : Qgs a l) {i : Nat} (hi : i < a.States.length) : Cx (Qhm a.States l i) = keyL a.States l i := by
 rw [Qhm, keyL]
 split
 ·rfl
 ·rw [Qgj, Qgj, bytesI_of (sign_bytes h hl hi).1, List.append_assoc]
  rfl
theorem keyB_eq {a : Ql} (h : RQ a) {l : List Nat} (hl : Qgs a l) {i j : Nat} (hi : i < a.States.length) (hj : j < a.States.length) : Qhm a.States l i = Qhm a.States l j ↔ keyS a.States l i = keyS a.States l j := by
 rw [← keyL_eq h hl hi hj, ← keyB_bytes h hl hi, ← keyB_bytes h hl hj]
 exact ⟨fun e => by rw [e], bytesI_inj⟩
theorem deal_zip {κ μ : Type} [DecidableEq κ] [DecidableEq μ] (P : κ → μ → Prop) (hP : ∀ a b x y, P a x → P b y → (a = b ↔ x = y)) : ∀ (zs : List (κ × μ)) (A : List (κ × μ)), (∀ z ∈ zs, P z.1 z.2) → (∀ z ∈ A, P z.1 z.2) →
  Ro (A.map (·.1)) (zs.map (·.1)) = Ro (A.map (·.2)) (zs.map (·.2)) ∧ (Gw (A.map (·.1)) (zs.map (·.1))).length = (Gw (A.map (·.2)) (zs.map (·.2))).length := by
 intro zs
 induction zs with
 | nil => intro A _ _; exact ⟨rfl, by simp [Gw]⟩
 | cons z zs ih =>
  intro A hz hA
  have hpz := hz z List.mem_cons_self
  have hmem : z.1 ∈ A.map (·.1) ↔ z.2 ∈ A.map (·.2) := by
   constructor
   ·intro h
    obtain ⟨y, hy, e⟩ := List.mem_map.1 h
    exact List.mem_map.2 ⟨y, hy, (hP _ _ _ _ (hA y hy) hpz).1 e⟩
   ·intro h
    obtain ⟨y, hy, e⟩ := List.mem_map.1 h
    exact List.mem_map.2 ⟨y, hy, (hP _ _ _ _ (hA y hy) hpz).2 e⟩
  have hidx : ∀ B : List (κ × μ), (∀ z ∈ B, P z.1 z.2) → (B.map (·.1)).idxOf z.1 = (B.map (·.2)).idxOf z.2 := by
   intro B
   induction B with
   | nil => intro _; rfl
   | cons y B ihB =>
    intro hB
    have hy := hP _ _ _ _ (hB y List.mem_cons_self) hpz
    rw [List.map_cons, List.map_cons, List.idxOf_cons, List.idxOf_cons, ihB fun w hw => hB w (List.mem_cons_of_mem _ hw)]
    by_cases he : y.1 = z.1
    ·rw [beq_iff_eq.2 he, beq_iff_eq.2 (hy.1 he)]
    ·rw [beq_eq_false_iff_ne.2 he, beq_eq_false_iff_ne.2 fun e => he (hy.2 e)]
  have hadd : ∃ B : List (κ × μ), Qfu (A.map (·.1)) z.1 = B.map (·.1) ∧ Qfu (A.map (·.2)) z.2 = B.map (·.2) ∧ ∀ z ∈ B, P z.1 z.2 := by
   rw [Qfu, Qfu]
   by_cases h : z.1 ∈ A.map (·.1)
   ·rw [if_pos h, if_pos (hmem.1 h)]
    exact ⟨A, rfl, rfl, hA⟩
   ·rw [if_neg h, if_neg (fun e => h (hmem.2 e))]
    refine ⟨A ++ [z], by simp, by simp, fun w hw => ?_⟩
    rcases List.mem_append.1 hw with hw | hw
    ·exact hA w hw
    ·rw [List.mem_singleton.1 hw]; exact hpz
  obtain ⟨B, e1, e2, hB⟩ := hadd
  obtain ⟨g1, g2⟩ := ih B (fun w hw => hz w (List.mem_cons_of_mem _ hw)) hB
  rw [List.map_cons, List.map_cons, Ro, Ro, Gw, Gw, e1, e2]
  exact ⟨by rw [g1, hidx B hB], g2⟩
theorem keysBA_deal {a : Ql} (h : RQ a) {l : List Nat} (hl : Qgs a l) : Ro [] (Iy a.States l) = Qfk a.States l ∧ (Gw [] (Iy a.States l)).length = manyB a.States l := by
 have := deal_zip (fun k s => ∃ i, i < a.States.length ∧ k = Qhm a.States l i ∧ s = keyS a.States l i) (fun a' b x y ⟨i, hi, h1, h2⟩ ⟨j, hj, h3, h4⟩ => by rw [h1, h2, h3, h4]; exact keyB_eq h hl hi hj) ((List.range a.States.length).map fun i => (Qhm a.States l i, keyS a.States l i)) [] (fun z hz => by
  obtain ⟨i, hi, rfl⟩ := List.mem_map.1 hz
  exact ⟨i, List.mem_range.1 hi, rfl, rfl⟩) (fun z hz => by cases hz)
 simp only [List.map_map, List.map_nil] at this
 exact this
theorem blocks_l1 (K : Nat) (hK : 10000 ≤ K) {a : Ql} (h : RQ a) {l : List Nat} (hl : Qgs a l) (go : Int → Ql → (List Int) → Option (List Int)) (many : Nat) : ∀ (q k i : Nat) (U : List ByteArray) (X : List Nat), a.States.length - i = q → q < k → i ≤ a.States.length → X.length = i → U.length ≤ i →
  Vo K go k (many : Int) a (a.States.length : Int) (i : Int) (We l) (Qfm U) (We X ++ List.replicate (a.States.length - i) 0) = bif ((Gw U ((Iy a.States l).drop i)).length : Int) == (many : Int) then some (We (X ++ Ro U ((Iy a.States l).drop i))) else go ((Gw U ((Iy a.States l).drop i)).length : Int) a (We (X ++ Ro U ((Iy a.States l).drop i))) := by
 have hn := h.n2
 intro q
 induction q with
 | zero =>
  intro k i U X hq hk hi hX hU
  obtain ⟨k, rfl⟩ : ∃ q, k = q + 1 := ⟨k - 1, by omega⟩
  have e0 : a.States.length - i = 0 := by omega
  have e1 : (Iy a.States l).drop i = [] := List.drop_eq_nil_of_le (by rw [Iy, List.length_map, List.length_range]; omega)
  rw [Vo]
  dsimp only
  rw [decide_eq_false (by omega), cF, e0, e1, knownM_len, Gw, Ro, List.replicate_zero, List.append_nil, List.append_nil]
 | succ q ih =>
  intro k i U X hq hk hi hX hU
  obtain ⟨k, rfl⟩ : ∃ q, k = q + 1 := ⟨k - 1, by omega⟩
  have hil : i < a.States.length := by omega
  have hlt : (i : Int) < (a.States.length : Int) := by omega
  have e1 : a.States.length - i = (a.States.length - (i + 1)) + 1 := by omega
  have hkl : i < (Iy a.States l).length := by rw [Iy, List.length_map, List.length_range]; exact hil
  have hki : (Iy a.States l)[i] = Qhm a.States l i := by simp [Iy]
  have hcl : (We X).length = i := by rw [We, List.length_map]; exact hX
  have hj2 : Km K (Vo K go k) (many : Int) (i : Int) (Qhm a.States l i) a (a.States.length : Int) (i : Int) (We l) (Qfm U) (We X ++ 0 :: List.replicate (a.States.length - (i + 1)) 0) = bif ((Gw U ((Iy a.States l).drop i)).length : Int) == (many : Int) then some (We (X ++ Ro U ((Iy a.States l).drop i))) else go ((Gw U ((Iy a.States l).drop i)).length : Int) a (We (X ++ Ro U ((Iy a.States l).drop i))) := by
   have hadl : (Qfu U (Qhm a.States l i)).length ≤ i + 1 := by
    rw [Qfu]; split
    ·omega
    ·rw [List.length_append, List.length_singleton]; omega
   have h3 := ih k (i + 1) (Qfu U (Qhm a.States l i)) (X ++ [posK (Qfu U (Qhm a.States l i)) (Qhm a.States l i)]) (by omega) (by omega) (by omega) (by rw [List.length_append, List.length_singleton]; omega) hadl
   have hc : We (X ++ [posK (Qfu U (Qhm a.States l i)) (Qhm a.States l i)]) = We X ++ [((posK (Qfu U (Qhm a.States l i)) (Qhm a.States l i) : Nat) : Int)] := by simp [We]
   rw [hc, List.append_assoc, List.singleton_append, List.append_assoc, List.singleton_append] at h3
   rw [List.drop_eq_getElem_cons hkl, hki, Gw, dealF_cons, ← h3]
   have hg := Qgh (We X) (List.replicate (a.States.length - (i + 1)) (0 : Int)) 0
   have hs := fun v => Qf4 (We X) (List.replicate (a.States.length - (i + 1)) (0 : Int)) 0 v
   rw [hcl] at hg
   rw [hcl] at hs
   rw [Km, look]
   by_cases hm : Qhm a.States l i ∈ U
   ·have ha : Qfu U (Qhm a.States l i) = U := by rw [Qfu, if_pos hm]
    rw [if_pos hm, Option.isSome_some, Bool.not_true, cF, Kl, hg, bS, look, if_pos hm, Option.getD_some, Int.toNat_natCast, hs, Ox (n := i) (by omega), ha]
   ·have ha : Qfu U (Qhm a.States l i) = U ++ [Qhm a.States l i] := by rw [Qfu, if_neg hm]
    have hin : Qhm a.States l i ∈ U ++ [Qhm a.States l i] := List.mem_append.2 (.inr (List.mem_singleton.2 rfl))
    rw [if_neg hm, Option.isSome_none, Bool.not_false, cT, Xh rfl, knownM_len, ← Qhz, Kl, hg, bS, look, if_pos hin, Option.getD_some, Int.toNat_natCast, hs, Ox (n := i) (by omega), ha]
  rw [Vo]
  dsimp only
  rw [decide_eq_true hlt, cT, Zg hil, bS, e1, List.replicate_succ]
  by_cases h0 : i = 0
  ·subst h0
   rw [decide_eq_false (by omega), cF]
   exact hj2
  ·have hgl := hl.get i
   have hsz := it_size (Rn (n := (l.getD i 0 : Int)) (by omega) (by omega))
   have hsg := (sign_bytes h hl hil)
   have hsz2 : (ofBytes (Qe5 l (stA a.States i))).size ≤ 100000 := by rw [← Qgi, bytesI_of hsg.1]; exact hsg.2
   rw [decide_eq_true (by omega), cT, Qfr (by rw [hl.len]; exact hil), bS, strconv_Itoa, if_pos (by omega), bS, Xh (by show (itoaS (l.getD i 0 : Int)).size + 1 ≤ 9223372036854775807; omega), sign_ok hK h hl hil, bS, Xh (by rw [ByteArray.size_append]; show (itoaS (l.getD i 0 : Int)).size + 1 + _ ≤ 9223372036854775807; omega)]
   rw [Qhm, if_neg h0] at hj2
   exact hj2
theorem next_num {a : Ql} (h : RQ a) (l : List Nat) : Qgs a (Qfk a.States l) :=
 ⟨Qhx _ _, fun x hx => by
  rw [Qfk, Qfq] at hx
  obtain ⟨k, hk, rfl⟩ := List.mem_map.1 hx
  have h1 := posK_lt ((No (Qem a.States l) [] k).2 (.inr hk))
  show posK (Gw [] (Qem a.States l)) k < 500
  have h2 := manyB_le a.States l
  have := h.n2
  rw [manyB] at h2
  omega⟩
theorem castL_repl (n : Nat) : We (List.replicate n 0) = List.replicate n 0 := by rw [We, List.map_replicate]; rfl
theorem blocks_l0 (K : Nat) (hK : 10000 ≤ K) {a : Ql} (h : RQ a) : ∀ (k' k : Nat) (l : List Nat) (many : Nat), k' ≤ k → Qgs a l → many ≤ (Gw [] l).length → a.States.length < k' + many →
  Wf K k (many : Int) a (We l) = some (We (blkS a.States k' l many)) := by
 intro k'
 induction k' with
 | zero =>
  intro k l many _ h1 h2 h3
  have := (Qfl h1.len).1
  have := manyB_le a.States l
  omega
 | succ k' ih =>
  intro k l many hk h1 h2 h3
  obtain ⟨k, rfl⟩ : ∃ q, k = q + 1 := ⟨k - 1, by omega⟩
  have hn := h.n2
  have hcl : (We l).length = a.States.length := by rw [We, List.length_map]; exact h1.len
  have h4 := blocks_l1 K hK h h1 (Wf K k) many a.States.length K 0 [] [] rfl (by omega) (Nat.zero_le _) rfl (Nat.zero_le _)
  obtain ⟨d1, d2⟩ := keysBA_deal h h1
  rw [Int.natCast_zero, List.drop_zero, List.nil_append, d1, d2, Nat.sub_zero] at h4
  have hle := (Qfl h1.len).1
  rw [Wf]
  dsimp only
  rw [hcl, Xh (by omega), Xh (Yg.2 ⟨by simp only [maxLen]; omega, by omega⟩), Int.toNat_natCast, blkS]
  refine Eq.trans h4 ?_
  by_cases he : manyB a.States l = many
  ·rw [if_pos he, he, beq_self_eq_true, cT]
  ·rw [if_neg he, beq_eq_false_iff_ne.2 (by omega), cF]
   exact ih k _ _ (by omega) (next_num h l) (by rw [uniq_next]; exact Nat.le_refl _) (by omega)
theorem blocks_ok {K : Nat} (hK : 10000 ≤ K) {a : Ql} (h : Ru a) : Lr K a = some (We (Vh a.States)) := by
 have hn := h.1.n2
 have := blocks_l0 K hK h.1 (a.States.length + 1) K (List.replicate a.States.length 0) 0 (by omega) ⟨List.length_replicate .., fun x hx => by rw [(List.mem_replicate.1 hx).2]; omega⟩ (Nat.zero_le _) (by omega)
 rw [castL_repl] at this
 rw [Lr, h.auto (by omega), bS, Bool.not_true, cF, Xh (by omega), Xh (Yg.2 ⟨by simp only [maxLen]; omega, by omega⟩), Int.toNat_natCast]
 exact this
end Go.Rv

/- Trimming, plainly: what is trimmed is right. -/
import Derived.Test.YtcmfaclkgdmpbaaGreatDoorRpUI
namespace Go.Rv
def withS (a : Qq) (S : List Qa) : Qq := ⟨a.Split, a.Counts, S⟩
def sendOk (S T : List Qa) (to : List Int) : Prop := ∀ i, 1 ≤ i → i < S.length → to.getD i (-1) = -1 ∨ (1 ≤ to.getD i (-1) ∧ to.getD i (-1) < T.length ∧ (stA T (to.getD i (-1)).toNat).R = (stA S i).R)
theorem sendM_ok {S T : List Qa} {to : List Int} (h : sendOk S T to) {R : List Int} {m : Qf} (hm : MvQ S R m) : MvQ T R (C0 to m) := by
 rw [C0]
 rcases hm with ⟨h1, h2⟩ | ⟨h1, h2, h3, h4⟩
 ·rw [if_neg (by omega)]; exact .inl ⟨rfl, rfl⟩
 ·rcases h m.To.toNat (by omega) (by omega) with g | ⟨g1, g2, g3⟩
  ·rw [if_neg (by omega)]; exact .inl ⟨rfl, rfl⟩
  ·rw [if_pos ⟨by omega, by omega⟩]
   refine .inr ⟨g1, g2, ?_, ?_⟩
   ·dsimp only; rw [g3]; exact h3
   ·dsimp only; rw [g3]; exact h4
theorem sendSt_ok {n : Nat} {many : Int} {S T : List Qa} {to : List Int} (h : sendOk S T to) {s : Qa} (hs : StQ n many S s) : StQ n many T (S6 to s) := by
 obtain ⟨h1, h2, h3, h4, h5, h6, h7, h8⟩ := hs
 refine ⟨h1, h2, ?_, h4, h5, h6, fun r hr => ?_, fun r hr m hm => ?_⟩
 ·rw [S6]; dsimp only; rw [Qk2]; exact h3
 ·obtain ⟨q, hq, rfl⟩ := Qll.1 hr
  rw [Qk2]; exact h7 q hq
 ·obtain ⟨q, hq, rfl⟩ := Qll.1 hr
  obtain ⟨m', hm', rfl⟩ := Qll.1 hm
  exact sendM_ok h (h8 q hq m' hm')
theorem RQ.send {a : Qq} (h : RQ a) {to : List Int} (hs : sendOk a.States (Nf to a.States) to) : RQ (withS a (Nf to a.States)) := by
 refine ⟨h.split, h.cl, h.cn, ?_, ?_, ?_, ?_, fun s hs' => ?_⟩
 ·show 1 ≤ (Nf to a.States).length
  rw [H6]; exact h.n1
 ·show (Nf to a.States).length ≤ 256
  rw [H6]; exact h.n2
 ·show (stA (Nf to a.States) 0).L = []
  rw [Qdf]; exact h.l0
 ·show (stA (Nf to a.States) 0).R = []
  rw [Qdf]; exact h.r0
 ·obtain ⟨q, hq, rfl⟩ := Qll.1 hs'
  exact sendSt_ok hs (h.st q hq)
theorem RQ.bury {a : Qq} (h : RQ a) (l : List Bool) : RQ (withS a (X3 a.States l)) :=
 h.send fun i h1 h2 => by
  rw [Tt]
  split
  ·refine .inr ⟨by omega, by rw [H6]; omega, ?_⟩
   rw [Qdf, Qk5]; rfl
  ·exact .inl rfl
theorem Qkd {l : List Nat} {i : Nat} (h : i < l.length) : l.idxOf l[i] ≤ i ∧ l.idxOf l[i] < l.length ∧ eqL l (l.idxOf l[i]) i := by
 have h1 : l.idxOf l[i] < l.length := Qma.2 (Qkz h)
 refine ⟨?_, h1, ?_⟩
 ·refine Decidable.byContradiction fun hc => ?_
  have := List.not_of_lt_findIdx (p := (· == l[i])) (xs := l) (i := i) (by rw [List.idxOf] at hc; omega)
  simp at this
 ·rw [eqL, Q4 h1, Q4 h, Qmt h1]
theorem RQ.join {a : Qq} (h : RQ a) : RQ (withS a (Sn a.States)) :=
 h.send fun i h1 h2 => by
  have hb := Ll h.toOk
  have hi : i < (Uk a.States).length := by rw [hb.len]; exact h2
  obtain ⟨g1, g2, g3⟩ := Qkd hi
  rw [Qho hi]
  have hs := hb.sim _ _ (by rw [← hb.len]; exact g2) h2 g3
  rw [Qk5, H6, Qdf]
  rcases hs with hs | ⟨hs1, hs2, hs3, _⟩
  ·omega
  ·refine .inr ⟨by omega, by rw [hb.len] at g2; omega, ?_⟩
   exact hs3
theorem order_zero {S : List Qa} (hT : toOk S) (h0 : 0 < S.length) : 0 < (W2 S).length ∧ (W2 S).getD 0 0 = 0 ∧ (W2 S).idxOf 0 = 0 := by
 obtain ⟨t, ht⟩ := (N2 hT h0).pre
 rw [ht]
 exact ⟨by simp, by simp, by simp [List.idxOf, List.findIdx_cons]⟩
theorem order_len {S : List Qa} (hT : toOk S) (h0 : 0 < S.length) : (W2 S).length ≤ S.length := by
 have ho := N2 hT h0
 have := Od (W2 S) (List.range S.length) ho.nodup fun x hx => Ql5.2 (ho.lt x hx)
 rw [Qlq] at this
 exact this
theorem Qkb {S : List Qa} {i : Nat} (h : i < (W2 S).length) : stA (Qhn S) i = S6 (Nz S.length (W2 S)) (stA S ((W2 S)[i])) := by
 rw [U5 (by rw [Qhm]; exact h)]
 simp only [Qhn, Qlw]
theorem RQ.keep {a : Qq} (h : RQ a) : RQ (withS a (Qhn a.States)) := by
 have h0 := h.n1
 have ho := N2 h.toOk (by omega)
 obtain ⟨z1, z2, z3⟩ := order_zero h.toOk (by omega)
 have z4 : (W2 a.States)[0] = 0 := by rw [Q4 z1] at z2; exact z2
 have hs : sendOk a.States (Qhn a.States) (Nz a.States.length (W2 a.States)) := fun i h1 h2 => by
  rw [Qdw h2]
  split
  ·next hm =>
   have g := Qma.2 hm
   have gg := Qmt g
   refine .inr ⟨?_, by rw [Qhm]; omega, ?_⟩
   ·have : (W2 a.States).idxOf i ≠ 0 := fun e => by
     simp only [e] at gg
     rw [z4] at gg; omega
    omega
   ·rw [Qk5, Qkb g, gg]; rfl
  ·exact .inl rfl
 refine ⟨h.split, h.cl, h.cn, ?_, ?_, ?_, ?_, fun s hs' => ?_⟩
 ·show 1 ≤ (Qhn a.States).length
  rw [Qhm]; exact z1
 ·show (Qhn a.States).length ≤ 256
  have := order_len h.toOk (by omega)
  have := h.n2
  rw [Qhm]; omega
 ·show (stA (Qhn a.States) 0).L = []
  rw [Qkb z1, z4]; exact h.l0
 ·show (stA (Qhn a.States) 0).R = []
  rw [Qkb z1, z4]; exact h.r0
 ·obtain ⟨q, hq, rfl⟩ := Qll.1 hs'
  have hql := ho.lt q hq
  exact sendSt_ok hs (by rw [U5 hql]; exact h.st _ (Qkz hql))
def Qek (a : Qq) (l : List Bool) : Qq := withS a (Qej a.States l (a.Counts.length == 0))
theorem RQ.trim {a : Qq} (h : RQ a) (l : List Bool) : RQ (Qek a l) := by
 rw [Qek, Qej]
 split
 ·exact (h.bury l).join.keep
 ·exact (h.bury l).keep
end Go.Rv
namespace Go.Rv
theorem bind_id {α : Type} (o : Option α) : (o.bind fun v => some v) = o := by cases o <;> rfl
theorem bury_l0 (K : Nat) (t : Qc) (l : List Bool) (hl : l.length ≤ 256) : ∀ (q k i : Nat) (X : List Int), l.length - i = q → q < k → X.length = i → i ≤ l.length →
  Xo K k l (l.length : Int) (i : Int) t (X ++ List.replicate (l.length - i) 0) = Ug K t (X ++ (Qht l).drop i) := by
 intro q
 induction q with
 | zero =>
  intro k i X hq hk hX hi
  obtain ⟨k, rfl⟩ := Qoe k (by omega)
  have e0 : l.length - i = 0 := by omega
  rw [Xo]
  dsimp only
  rw [Qkx (by omega), cF, e0, Qlb (by rw [Qht, Qk2, Qlq]; omega), bind_id]
  rfl
 | succ q ih =>
  intro k i X hq hk hX hi
  obtain ⟨k, rfl⟩ := Qoe k (by omega)
  have hil : i < l.length := by omega
  have hlt : (i : Int) < (l.length : Int) := by omega
  have e1 : l.length - i = (l.length - (i + 1)) + 1 := by omega
  have hbl : i < (Qht l).length := by rw [Qht, Qk2, Qlq]; exact hil
  have hd := Qk4 hbl
  have hb : (Qht l)[i] = if l[i] = true then (i : Int) else -1 := by
   have := Tt (l := l) (i := i)
   rw [Q4 hbl, Q4 hil] at this
   exact this
  have h3 := fun y => ih k (i + 1) (X ++ [y]) (by omega) (by omega) (by rw [Qky, Qkw]; omega) (by omega)
  simp only [Qk0, Ql4] at h3
  have hset : ∀ y z : Int, (X ++ y :: List.replicate (l.length - (i + 1)) 0).set i z = X ++ z :: List.replicate (l.length - (i + 1)) 0 := fun y z => by
   have := Qh9 X (List.replicate (l.length - (i + 1)) 0) y z
   rw [hX] at this; exact this
  have hget : ∀ y : Int, Ys (X ++ y :: List.replicate (l.length - (i + 1)) 0) (i : Int) = some y := fun y => by
   have := Qih X (List.replicate (l.length - (i + 1)) 0) y
   rw [hX] at this; exact this
  rw [Xo]
  dsimp only
  rw [Qk1 hlt, cT, Q3 hil, bS, e1, Qmi, hget, bS, Qk5, hset, hget, hset, Mf (n := i) (by omega), hd, hb]
  cases hv : l[i] with
  | true => rw [Qly, cF, if_pos rfl, h3]
  | false => rw [Qlx, cT, bS, if_neg (by decide), h3]
theorem send_of {K : Nat} (hK : 1000 ≤ K) {a : Qq} (h : RQ a) {to : List Int} (ht : to.length = a.States.length) : Ug K ⟨a⟩ to = some ⟨withS a (Nf to a.States)⟩ :=
 send_ok K hK a to h.n2 (fun s hs => h.small hs) fun s hs r hr m hm => by
  obtain ⟨i, hi, rfl⟩ := Qlr hs
  have := h.toOk i hi m (by rw [mvs, U5 hi]; exact Qno.2 ⟨r, hr, hm⟩)
  omega
theorem send1_of {K : Nat} (hK : 1000 ≤ K) {a : Qq} (h : RQ a) {to : List Int} (ht : to.length = a.States.length) : Vr K ⟨a⟩ to = some ⟨withS a (Nf to a.States)⟩ :=
 send1_ok K hK a to h.n2 (fun s hs => h.small hs) fun s hs r hr m hm => by
  obtain ⟨i, hi, rfl⟩ := Qlr hs
  have := h.toOk i hi m (by rw [mvs, U5 hi]; exact Qno.2 ⟨r, hr, hm⟩)
  omega
theorem bury_ok' {a : Qq} (h : Tz a) {K : Nat} (hK : 10000000 ≤ K) : ∃ l, Ty a.States l ∧ Gl K ⟨a⟩ = some ⟨withS a (X3 a.States l)⟩ := by
 obtain ⟨l, h1, h2⟩ := live_ok h hK
 have hn := h.1.n2
 have hl := h2.len
 have h3 := bury_l0 K ⟨a⟩ l (by omega) l.length K 0 [] rfl (by omega) rfl (Qla _)
 rw [Qk6, Qlj, Qlc, Qlc, Qmb, send_of (by omega) h.1 (by rw [Qht, Qk2, Qlq]; exact hl)] at h3
 refine ⟨l, h2, ?_⟩
 rw [Gl]
 dsimp only
 rw [Z4 (by omega), Z4 (Zo.2 ⟨by simp only [maxLen]; omega, by omega⟩), h1, bS, Qk5, ← hl]
 exact h3
def Zv (o : List Nat) : List Int := o.map fun n : Nat => (n : Int)
theorem Dk (n : Nat) (o : List Nat) : (Nz n o).length = n := by rw [Nz, Qk2, Qlq]
theorem keepT_snoc {n x : Nat} {o : List Nat} (hx : x < n) (h : x ∉ o) : (Nz n o).set x (o.length : Int) = Nz n (o ++ [x]) := by
 have _ := hx
 refine Qn6 (by rw [Ql2, Dk, Dk]) fun i h1 h2 => ?_
 rw [Dk] at h2
 have e := Qdw (n := n) (o := o ++ [x]) h2
 rw [Q4 (by rw [Dk]; exact h2)] at e
 rw [e]
 by_cases hi : x = i
 ·subst hi
  rw [Qnd, if_pos (Qk3.2 (.inr (Qk8.2 rfl))), Qn1, if_neg h]
  simp
 ·have e2 := Qdw (n := n) (o := o) h2
  rw [Q4 (by rw [Dk]; exact h2)] at e2
  rw [List.getElem_set_ne hi, e2]
  by_cases hm : i ∈ o
  ·rw [if_pos hm, if_pos (Qk3.2 (.inl hm)), Qn1, if_pos hm]
  ·rw [if_neg hm, if_neg (fun hc => by
    rcases Qk3.1 hc with hc | hc
    ·exact hm hc
    ·exact hi (Qk8.1 hc).symm)]
theorem keep_l1 (K : Nat) (go : Int → Qc → (List Int) → (List Int) → Option Qc) (x4 : Int) (ms : List Qf) (t : Qc) (n : Nat) (hm : ∀ m ∈ ms, m.To < n) (hl : ms.length ≤ 100000) : ∀ (q k j : Nat) (o : List Nat), ms.length - j = q → q < k → o.length ≤ 1000 + j →
  Y7 K go k x4 ms (ms.length : Int) (j : Int) t (Nz n o) (Zv o) = go (IntKind.i64.wrap (x4 + 1)) t (Nz n ((ms.drop j).foldl addO o)) (Zv ((ms.drop j).foldl addO o)) := by
 intro q
 induction q with
 | zero =>
  intro k j o hq hk ho
  obtain ⟨k, rfl⟩ := Qoe k (by omega)
  rw [Y7]
  dsimp only
  rw [Qkx (by omega), cF, Qlb (by omega)]
  rfl
 | succ q ih =>
  intro k j o hq hk ho
  obtain ⟨k, rfl⟩ := Qoe k (by omega)
  have hj : j < ms.length := by omega
  have hto := hm _ (Qkz hj)
  have hw := Mf (n := j) (by omega)
  have hlt : (j : Int) < (ms.length : Int) := by omega
  have hcl : (Zv o).length = o.length := by rw [Zv, Qk2]
  rw [Y7]
  dsimp only
  rw [Qk1 hlt, cT, Q3 hj, bS, Qk4 hj, Ql1, hw]
  generalize ms[j] = m at *
  by_cases h0 : m.To ≥ 0
  ·obtain ⟨x, hx⟩ : ∃ x : Nat, m.To = (x : Int) := ⟨m.To.toNat, by omega⟩
   have hxn : x < n := by omega
   have hg : Ys (Nz n o) m.To = some (if x ∈ o then (o.idxOf x : Int) else -1) := by
    rw [hx, Q3 (by rw [Dk]; exact hxn), ← Q4 (d := -1) (by rw [Dk]; exact hxn), Qdw hxn]
   rw [Qk1 h0, cT, hg, bS]
   by_cases hmem : x ∈ o
   ·have ha : addO o m = o := by rw [addO, if_neg (by rw [hx, Qk5]; exact fun h => h.2 hmem)]
    rw [if_pos hmem, Qkx (by omega), cF, ha]
    exact ih k (j + 1) o (by omega) (by omega) (by omega)
   ·have ha : addO o m = o ++ [x] := by rw [addO, hx, Qk5, if_pos ⟨by omega, hmem⟩]
    rw [if_neg hmem, Qk1 (by omega), cT, Z4 (Zo.2 ⟨by simp only [maxLen, Qkw]; omega, by simp only [Qkw]; omega⟩), hcl, hx, Qk5, keepT_snoc hxn hmem, ha]
    have := ih k (j + 1) (o ++ [x]) (by omega) (by omega) (by rw [Qky, Qkw]; omega)
    rw [← this]
    simp [Zv]
  ·have ha : addO o m = o := by rw [addO, if_neg (fun h => h0 h.1)]
   rw [Qkx h0, cF, ha]
   exact ih k (j + 1) o (by omega) (by omega) (by omega)
theorem keep_l2 (K : Nat) (f : Zp) (many : Int) (cs : List Xf) (S : List Qa) (r : List Nat) (hr : ∀ x ∈ r, x < S.length) (hrl : r.length ≤ 256) : ∀ (q k i : Nat) (X : List Qa), r.length - i = q → q < k → X.length = i → i ≤ r.length →
  Vs K k (r.length : Int) (i : Int) f many cs S X (Zv r) = some ⟨⟨⟨f, many⟩, cs, X ++ (r.drop i).map (stA S)⟩⟩ := by
 intro q
 induction q with
 | zero =>
  intro k i X hq hk hX hi
  obtain ⟨k, rfl⟩ := Qoe k (by omega)
  rw [Vs]
  dsimp only
  rw [Qkx (by omega), cF, Qlb (by omega), Qmx, Qli]
 | succ q ih =>
  intro k i X hq hk hX hi
  obtain ⟨k, rfl⟩ := Qoe k (by omega)
  have hil : i < r.length := by omega
  have hlt : (i : Int) < (r.length : Int) := by omega
  have hx := hr _ (Qkz hil)
  have hg : Ys (Zv r) (i : Int) = some (r[i] : Int) := by
   rw [Q3 (by rw [Zv, Qk2]; exact hil)]
   simp [Zv]
  rw [Vs]
  dsimp only
  rw [Qk1 hlt, cT, hg, bS, Q3 hx, bS, Z4 (Zo.2 ⟨by simp only [maxLen, Qkw]; omega, by simp only [Qkw]; omega⟩), Mf (n := i) (by omega), ih k (i + 1) _ (by omega) (by omega) (by rw [Qky, Qkw]; omega) (by omega), Qk4 hil, Qlk, U5 hx, Qk0]
  rfl
theorem keep_l0 (K : Nat) (hK : 10000 ≤ K) {a : Qq} (h : RQ a) : ∀ (k' k i : Nat) (o : List Nat), k' ≤ k → o.Nodup → (∀ x ∈ o, x < a.States.length) → i ≤ o.length → a.States.length < k' + i → (bfs a.States k' i o).length ≤ 256 → (∀ x ∈ bfs a.States k' i o, x < a.States.length) →
  Xn K k (i : Int) ⟨a⟩ (Nz a.States.length o) (Zv o) = some ⟨withS a ((bfs a.States k' i o).map fun q => S6 (Nz a.States.length (bfs a.States k' i o)) (stA a.States q))⟩ := by
 intro k'
 induction k' with
 | zero =>
  intro k i o _ h1 h2 h3 h4
  have := Od o (List.range a.States.length) h1 fun x hx => Ql5.2 (h2 x hx)
  rw [Qlq] at this
  omega
 | succ k' ih =>
  intro k i o hk h1 h2 h3 h4 h5 h6
  obtain ⟨k, rfl⟩ := Qoe k (by omega)
  have hn := h.n2
  have hol := Od o (List.range a.States.length) h1 fun x hx => Ql5.2 (h2 x hx)
  rw [Qlq] at hol
  have hcl : (Zv o).length = o.length := by rw [Zv, Qk2]
  rw [Xn]
  rw [bfs] at h5 h6 ⊢
  dsimp only
  rw [hcl]
  by_cases hi : i < o.length
  ·rw [if_pos hi] at h5 h6 ⊢
   have hx := h2 _ (Qkz hi)
   have hg : Ys (Zv o) (i : Int) = some (o[i] : Int) := by
    rw [Q3 (by rw [hcl]; exact hi)]
    simp [Zv]
   have hsm := h.small (Qkz hx)
   have hfl := hsm.flat
   have hmv : mvs a.States o[i] = (a.States[o[i]]).Next.flatten := by rw [mvs, U5 hx]
   have hto : ∀ m ∈ mvs a.States o[i], m.To < a.States.length := h.toOk _ hx
   rw [Q4 hi] at h5 h6 ⊢
   rw [Qk1 (by omega), cT, hg, bS, Q3 hx, bS, moves_eq K _ (by have := hsm.next; omega) (by have := hsm.next; omega) (by omega), bS, ← hmv]
   have := keep_l1 K (Xn K k) (i : Int) (mvs a.States o[i]) ⟨a⟩ a.States.length hto (by rw [hmv]; omega) (mvs a.States o[i]).length K 0 o rfl (by rw [hmv]; omega) (by omega)
   rw [Qk6, Qlj, Mf (n := i) (by omega)] at this
   rw [this]
   refine ih k (i + 1) _ (by omega) (Qke _ _ h1) (fun x hx' => ?_) ?_ (by omega) h5 h6
   ·rcases (foldO_mem _ _ _).1 hx' with h' | ⟨m, hm, h0, rfl⟩
    ·exact h2 x h'
    ·have := hto m hm; omega
   ·obtain ⟨t, ht⟩ := foldO_pre (mvs a.States o[i]) o
    rw [ht, Qky]; omega
  ·rw [if_neg hi] at h5 h6 ⊢
   rw [Qkx (by omega), cF, send_of (by omega) h (Dk _ _), bS]
   dsimp only [withS]
   have := keep_l2 K a.Split.Of a.Split.Many a.Counts (Nf (Nz a.States.length o) a.States) o (fun x hx => by rw [H6]; exact h2 x hx) (by omega) o.length K 0 [] rfl (by omega) rfl (Qla _)
   rw [Qk6, Qlj, Qlc] at this
   rw [this]
   congr 4
   exact funext fun x => Qdf _ _ _
theorem repeat_l1 (K : Nat) (n : Nat) (hn : n ≤ 256) : ∀ (q k i : Nat), n - i = q → q < k → 1 ≤ i → i ≤ n → Ut K k (i : Int) (List.replicate i (-1 : Int) ++ List.replicate (n - i) 0) = some (List.replicate n (-1)) := by
 intro q
 induction q using Nat.strongRecOn with
 | ind q ih =>
  intro k i hq hk h1 h2
  obtain ⟨k, rfl⟩ := Qoe k (by omega)
  have hl : (List.replicate i (-1 : Int) ++ List.replicate (n - i) 0).length = n := by simp; omega
  rw [Ut]
  dsimp only
  rw [hl, Qk5]
  by_cases hi : i < n
  ·have e : IntKind.i64.wrap ((i : Int) + ((min i (n - i) : Nat) : Int)) = ((i + min i (n - i) : Nat) : Int) := by rw [w64 (by omega) (by omega)]; omega
   rw [Qk1 (by omega), cT, Z4 ⟨by omega, by omega⟩, Z4 ⟨by omega, by omega⟩, e]
   have hih := ih (n - (i + min i (n - i))) (by omega) k (i + min i (n - i)) rfl (by omega) (by omega) (by omega)
   rw [← hih]
   congr 1
   have e1 : (List.replicate i (-1 : Int) ++ List.replicate (n - i) 0).take i = List.replicate i (-1) := by
    rw [Qmm (by simp), Ql9 (by simp)]
   have e2 : (List.replicate i (-1 : Int) ++ List.replicate (n - i) 0).take (min i (n - i)) = List.replicate (min i (n - i)) (-1) := by
    rw [Qmm (by simp; omega), List.take_replicate]
    congr 1; omega
   have e3 : (List.replicate i (-1 : Int) ++ List.replicate (n - i) 0).drop (i + min i (n - i)) = List.replicate (n - (i + min i (n - i))) 0 := by
    rw [List.drop_append, List.drop_of_length_le (by simp), Qlc, List.drop_replicate]
    congr 1; simp; omega
   rw [e1, e2, e3, List.replicate_append_replicate]
  ·have : n = i := by omega
   subst this
   rw [Qkx (by omega), cF]
   simp
theorem mul_ok : ∀ n : _root_.Fin 257, Qhv 0 (IntKind.u64.wrap 1) (IntKind.u64.wrap ((n.val : Nat) : Int)) = some (0, ((n.val : Nat) : Int)) := by decide +kernel
theorem repeat_ok (K : Nat) (n : Nat) (h1 : 1 ≤ n) (hn : n ≤ 256) (hK : 1000 ≤ K) : Gm K [(-1 : Int)] (n : Int) = some (List.replicate n (-1)) := by
 have hm : Qhv K (IntKind.u64.wrap (([(-1 : Int)].length : Nat) : Int)) (IntKind.u64.wrap (n : Int)) = some (0, (n : Int)) := mul_ok ⟨n, by omega⟩
 rw [Gm, Qkx (by omega), cF, hm, bS]
 dsimp only
 rw [Qkx (by omega), cF, Qkx (by omega), cF, w64 (by omega) (by omega), Z4 (by omega), Z4 (Zo.2 ⟨by simp only [maxLen]; omega, by omega⟩), Z4 ⟨by simp, by simp; omega⟩, Qk5]
 have := repeat_l1 K n hn (n - 1) K 1 rfl (by omega) (by omega) h1
 rw [← this]
 congr 1
 simp
theorem keep_ok {K : Nat} (hK : 10000 ≤ K) {a : Qq} (h : RQ a) : Gj K ⟨a⟩ = some ⟨withS a (Qhn a.States)⟩ := by
 have h0 := h.n1
 have hn := h.n2
 have ho := N2 h.toOk (by omega)
 have hol := order_len h.toOk (by omega)
 have := keep_l0 K hK h (a.States.length + 1) K 0 [0] (by omega) (Qng.2 ⟨Qnn, Qnq⟩) (fun x hx => by rw [Qk8.1 hx]; omega) (Qla _) (by omega) (by rw [W2] at hol; omega) ho.lt
 rw [Gj]
 dsimp only
 rw [repeat_ok K _ h0 hn (by omega), bS]
 have e : Ys (List.replicate a.States.length (-1 : Int)) 0 = some (-1) := by
  have := Q3 (l := List.replicate a.States.length (-1 : Int)) (i := 0) (by rw [Ql3]; omega)
  rw [Qna] at this
  exact this
 have e2 : (List.replicate a.States.length (-1 : Int)).set (Int.toNat 0) 0 = Nz a.States.length [0] := by
  have e3 : List.replicate a.States.length (-1 : Int) = Nz a.States.length [] := by
   refine Qn6 (by rw [Dk, Ql3]) fun i h1 h2 => ?_
   simp [Nz]
  rw [e3]
  exact keepT_snoc (o := []) (by omega) Qnn
 rw [e, bS, e2]
 exact this
end Go.Rv
namespace Go.Rv
def itB (n : Int) : List Int := Cv (itoaS n)
def decD : List Int → Int → Int
 | [], v => v
 | c :: l, v => decD l (10 * v + (c - 48))
def decV : List Int → Int
 | [] => 0
 | c :: l => if c = 45 then -(decD l 0) else decD (c :: l) 0
def itOk (n : Int) : Bool := decV (itB n) == n && (itB n).all (fun c => c == 45 || (decide (48 ≤ c) && decide (c ≤ 57))) && decide (1 ≤ (itB n).length) && decide ((itB n).length ≤ 4)
theorem itOk_all : ∀ n : _root_.Fin 601, itOk ((n.val : Int) - 1) = true := by decide +kernel
structure Qgs (n : Int) : Prop where
 val : decV (itB n) = n
 dig : ∀ c ∈ itB n, c = 45 ∨ (48 ≤ c ∧ c ≤ 57)
 pos : 1 ≤ (itB n).length
 len : (itB n).length ≤ 4
theorem So {n : Int} (h0 : -1 ≤ n) (h1 : n < 600) : Qgs n := by
 have := itOk_all ⟨(n + 1).toNat, by omega⟩
 dsimp only at this
 rw [show (((n + 1).toNat : Nat) : Int) - 1 = n by omega, itOk] at this
 simp only [Qlz, Qmp, Qme, Qlv, Qn9] at this
 exact ⟨this.1.1.1, this.1.1.2, this.1.2, this.2⟩
def tok (n : Int) : List Int := itB n ++ [32]
def Qjw (l : List Nat) (m : Qf) : List Int := if m.To < 0 then tok (-1) else tok (l.getD m.To.toNat 0 : Int) ++ (m.Ops ++ tok (m.Ops.length : Int))
def Qgy (l : List Nat) (s : Qa) : List Int := tok (s.R.length : Int) ++ ((s.R.map tok).flatten ++ ((s.Rule.map tok).flatten ++ (s.Next.flatten.map (Qjw l)).flatten))
theorem cut_eq {d : Int} : ∀ (A B u v : List Int), d ∉ A → d ∉ B → A ++ d :: u = B ++ d :: v → A = B ∧ u = v := by
 intro A
 induction A with
 | nil =>
  intro B u v _ hB h
  cases B with
  | nil => rw [Qlc, Qlc] at h; exact ⟨rfl, (List.cons.inj h).2⟩
  | cons b B => rw [Qlc, Qmk] at h; exact absurd (Ql8.2 (.inl (List.cons.inj h).1)) hB
 | cons a A ih =>
  intro B u v hA hB h
  cases B with
  | nil => rw [Qlc, Qmk] at h; exact absurd (Ql8.2 (.inl (List.cons.inj h).1.symm)) hA
  | cons b B =>
   rw [Qmk, Qmk] at h
   obtain ⟨h1, h2⟩ := List.cons.inj h
   obtain ⟨h3, h4⟩ := ih B u v (fun h => hA (Qld _ h)) (fun h => hB (Qld _ h)) h2
   exact ⟨by rw [h1, h3], h4⟩
theorem it_no {n : Int} (h : Qgs n) {d : Int} (hd : d = 32 ∨ d = 58) : d ∉ itB n := fun hm => by
 have := h.dig d hm
 omega
theorem it_inj {a b : Int} (ha : Qgs a) (hb : Qgs b) (h : itB a = itB b) : a = b := by
 rw [← ha.val, ← hb.val, h]
theorem Qfh {a b : Int} (ha : Qgs a) (hb : Qgs b) {u v : List Int} (h : tok a ++ u = tok b ++ v) : a = b ∧ u = v := by
 rw [tok, tok, Qk0, Qk0] at h
 obtain ⟨h1, h2⟩ := cut_eq _ _ _ _ (it_no ha (.inl rfl)) (it_no hb (.inl rfl)) h
 exact ⟨it_inj ha hb h1, h2⟩
theorem toks_cut : ∀ (x y : List Int), x.length = y.length → (∀ n ∈ x, Qgs n) → (∀ n ∈ y, Qgs n) → ∀ (u v : List Int), (x.map tok).flatten ++ u = (y.map tok).flatten ++ v → x = y ∧ u = v := by
 intro x
 induction x with
 | nil =>
  intro y hl _ _ u v h
  cases y with
  | nil => exact ⟨rfl, h⟩
  | cons b y => simp at hl
 | cons a x ih =>
  intro y hl hx hy u v h
  cases y with
  | nil => simp at hl
  | cons b y =>
   simp only [Qlk, Qlo, Qk0] at h
   obtain ⟨h1, h2⟩ := Qfh (hx a Qlg) (hy b Qlg) h
   obtain ⟨h3, h4⟩ := ih y (by simpa using hl) (fun n hn => hx n (Qld _ hn)) (fun n hn => hy n (Qld _ hn)) u v h2
   exact ⟨by rw [h1, h3], h4⟩
theorem tok_head {n : Int} (h : Qgs n) (u : List Int) : ∃ c t, tok n ++ u = c :: t ∧ 45 ≤ c := by
 have hp := h.pos
 have hd := h.dig
 rw [tok]
 cases hq : itB n with
 | nil => rw [hq] at hp; simp at hp
 | cons c t =>
  rw [hq] at hd
  refine ⟨c, t ++ ([32] ++ u), by simp, ?_⟩
  have := hd c Qlg
  omega
theorem ops_cut : ∀ (O P : List Int), (∀ c ∈ O, c ≤ 3) → (∀ c ∈ P, c ≤ 3) → ∀ (a b : Int), Qgs a → Qgs b → ∀ u v, O ++ (tok a ++ u) = P ++ (tok b ++ v) → O = P ∧ tok a ++ u = tok b ++ v := by
 intro O
 induction O with
 | nil =>
  intro P _ hP a b ha hb u v h
  cases P with
  | nil => exact ⟨rfl, h⟩
  | cons p P =>
   obtain ⟨c, t, e, hc⟩ := tok_head ha u
   rw [Qlc, e, Qmk] at h
   have h1 := hP p Qlg
   have h2 := (List.cons.inj h).1
   omega
 | cons o O ih =>
  intro P hO hP a b ha hb u v h
  cases P with
  | nil =>
   obtain ⟨c, t, e, hc⟩ := tok_head hb v
   rw [Qlc, e, Qmk] at h
   have h1 := hO o Qlg
   have h2 := (List.cons.inj h).1
   omega
  | cons p P =>
   rw [Qmk, Qmk] at h
   obtain ⟨h1, h2⟩ := List.cons.inj h
   obtain ⟨h3, h4⟩ := ih P (fun c hc => hO c (Qld _ hc)) (fun c hc => hP c (Qld _ hc)) a b ha hb u v h2
   exact ⟨by rw [h1, h3], h4⟩
def mvOkL (l : List Nat) (m : Qf) : Prop := (∀ c ∈ m.Ops, 1 ≤ c ∧ c ≤ 3) ∧ m.Ops.length ≤ 3 ∧ l.getD m.To.toNat 0 < 500
theorem mtok_cut {l : List Nat} {m n : Qf} (hm : mvOkL l m) (hn : mvOkL l n) {u v : List Int} (h : Qjw l m ++ u = Qjw l n ++ v) : keyM l m = keyM l n ∧ u = v := by
 obtain ⟨m1, m2, m3⟩ := hm
 obtain ⟨n1, n2, n3⟩ := hn
 have i0 : Qgs (-1) := So (by omega) (by omega)
 have i1 : Qgs (l.getD m.To.toNat 0 : Int) := So (by omega) (by omega)
 have i2 : Qgs (l.getD n.To.toNat 0 : Int) := So (by omega) (by omega)
 rw [Qjw, Qjw] at h
 rw [keyM, keyM]
 by_cases h1 : m.To < 0 <;> by_cases h2 : n.To < 0
 ·rw [if_pos h1, if_pos h2] at h ⊢
  exact ⟨rfl, (Qfh i0 i0 h).2⟩
 ·rw [if_pos h1, if_neg h2, Qk0] at h
  have := (Qfh i0 i2 h).1
  omega
 ·rw [if_neg h1, if_pos h2, Qk0] at h
  have := (Qfh i1 i0 h).1
  omega
 ·rw [if_neg h1, if_neg h2] at h ⊢
  simp only [Qk0] at h
  obtain ⟨g1, g2⟩ := Qfh i1 i2 h
  have j1 : Qgs (m.Ops.length : Int) := So (by omega) (by omega)
  have j2 : Qgs (n.Ops.length : Int) := So (by omega) (by omega)
  obtain ⟨g3, g4⟩ := ops_cut _ _ (fun c hc => (m1 c hc).2) (fun c hc => (n1 c hc).2) _ _ j1 j2 _ _ g2
  exact ⟨by rw [g3, show l.getD m.To.toNat 0 = l.getD n.To.toNat 0 by omega], (Qfh j1 j2 g4).2⟩
theorem mtok_of {l : List Nat} {m n : Qf} (h : keyM l m = keyM l n) : Qjw l m = Qjw l n := by
 rw [keyM, keyM] at h
 rw [Qjw, Qjw]
 by_cases h1 : m.To < 0 <;> by_cases h2 : n.To < 0
 ·rw [if_pos h1, if_pos h2]
 ·rw [if_pos h1, if_neg h2] at h; cases h
 ·rw [if_neg h1, if_pos h2] at h; cases h
 ·rw [if_neg h1, if_neg h2] at h ⊢
  simp only [Qln, Qk7] at h
  rw [h.1, h.2]
theorem mtoks_cut {l : List Nat} : ∀ (x y : List Qf), x.length = y.length → (∀ m ∈ x, mvOkL l m) → (∀ m ∈ y, mvOkL l m) → (x.map (Qjw l)).flatten = (y.map (Qjw l)).flatten → x.map (keyM l) = y.map (keyM l) := by
 intro x
 induction x with
 | nil =>
  intro y hl _ _ h
  cases y with
  | nil => rfl
  | cons b y => simp at hl
 | cons a x ih =>
  intro y hl hx hy h
  cases y with
  | nil => simp at hl
  | cons b y =>
   simp only [Qlk, Qlo] at h ⊢
   obtain ⟨h1, h2⟩ := mtok_cut (hx a Qlg) (hy b Qlg) h
   rw [h1, ih y (by simpa using hl) (fun n hn => hx n (Qld _ hn)) (fun n hn => hy n (Qld _ hn)) h2]
theorem mtoks_of {l : List Nat} {x y : List Qf} (h : x.map (keyM l) = y.map (keyM l)) : x.map (Qjw l) = y.map (Qjw l) := by
 have hl : x.length = y.length := by have := congrArg List.length h; simpa using this
 refine Qn6 (by simpa using hl) fun k k1 k2 => ?_
 rw [Qlw, Qlw]
 refine mtok_of ?_
 have := congrArg (fun q => q[k]?) h
 rw [Qk2] at k1 k2
 simpa [k1, k2] using this
def keyL (S : List Qa) (l : List Nat) (i : Nat) : List Int := if i = 0 then [102, 105, 114, 115, 116] else itB (l.getD i 0 : Int) ++ 58 :: Qgy l (stA S i)
structure Qir (a : Qq) (l : List Nat) : Prop where
 len : l.length = a.States.length
 lt : ∀ x ∈ l, x < 500
theorem Qir.get {a : Qq} {l : List Nat} (h : Qir a l) (i : Nat) : l.getD i 0 < 500 := by
 by_cases hi : i < l.length
 ·rw [Q4 hi]; exact h.lt _ (Qkz hi)
 ·rw [getD_far (by omega)]; omega
theorem RQ.mvL {a : Qq} (h : RQ a) {l : List Nat} (hl : Qir a l) {i : Nat} (hi : i < a.States.length) : ∀ m ∈ Go.Rv.mvs a.States i, mvOkL l m := fun m hm => by
 have hs := h.small (Qkz hi)
 have hq := h.mvs hi hm
 rw [Go.Rv.mvs, U5 hi] at hm
 obtain ⟨r, hr, hm'⟩ := Qno.1 hm
 refine ⟨fun c hc => ?_, hs.ops r hr m hm', hl.get _⟩
 rcases hq with ⟨_, h2⟩ | ⟨_, _, _, h4⟩
 ·rw [h2] at hc; cases hc
 ·obtain ⟨j, hj, rfl⟩ := Qlr hc
  exact ⟨(h4 j hj).1, (h4 j hj).2.1⟩
theorem risesF_mem {below : Int} : ∀ (l : List Int) (last : Int), Rl below last l = true → ∀ x ∈ l, last < x ∧ x < below := by
 intro l
 induction l with
 | nil => intro last _ x hx; cases hx
 | cons n l ih =>
  intro last h x hx
  simp only [Rl, Qlz, Bool.not_eq_true', decide_eq_false_iff_not] at h
  rcases Ql8.1 hx with rfl | hx
  ·omega
  ·have := ih n h.2.2 x hx; omega
theorem StQ.rIt {n : Nat} {many : Int} {S : List Qa} {s : Qa} (h : StQ n many S s) (hn : n ≤ 512) : ∀ x ∈ s.R, Qgs x := fun x hx => by
 have := risesF_mem s.R (-1) h.r x hx
 exact So (by omega) (by omega)
theorem StQ.ruleIt {n : Nat} {many : Int} {S : List Qa} {s : Qa} (h : StQ n many S s) : ∀ x ∈ s.Rule, Qgs x := fun x hx => by
 have := h.rule x hx
 exact So (by omega) (by omega)
theorem sum_const : ∀ (l : List Nat) (c : Nat), (∀ x ∈ l, x = c) → l.sum = l.length * c := by
 intro l
 induction l with
 | nil => intro c _; simp
 | cons x l ih =>
  intro c h
  rw [List.sum_cons, ih c fun y hy => h y (Qld _ hy), h x Qlg, Qle, Qm8]
  omega
theorem StQ.mvsLen {n : Nat} {many : Int} {S : List Qa} {s t : Qa} (hs : StQ n many S s) (ht : StQ n many S t) (hr : s.R.length = t.R.length) : s.Rule.length = t.Rule.length ∧ s.Next.length = t.Next.length ∧ s.Next.flatten.length = t.Next.flatten.length := by
 have e1 := hs.rl
 have e2 := ht.rl
 have e3 := hs.nl
 have e4 := ht.nl
 rw [hr] at e1 e3
 have f : ∀ u : Qa, StQ n many S u → u.Next.flatten.length = u.Next.length * many.toNat := fun u hu => by
  have := sum_const (u.Next.map List.length) many.toNat fun x hx => by
   obtain ⟨r, hr, rfl⟩ := Qll.1 hx
   have := hu.row r hr
   omega
  rw [List.length_flatten, this, Qk2]
 have e5 : s.Next.length = t.Next.length := by omega
 exact ⟨by omega, e5, by rw [f s hs, f t ht, e5]⟩
theorem sign_cut {a : Qq} (h : RQ a) {l : List Nat} (hl : Qir a l) {i j : Nat} (hi : i < a.States.length) (hj : j < a.States.length) (he : Qgy l (stA a.States i) = Qgy l (stA a.States j)) : (stA a.States i).R = (stA a.States j).R ∧ (stA a.States i).Rule = (stA a.States j).Rule ∧ (mvs a.States i).map (keyM l) = (mvs a.States j).map (keyM l) := by
 have gi := h.st _ (Qkz hi)
 have gj := h.st _ (Qkz hj)
 have si := h.small (Qkz hi)
 have sj := h.small (Qkz hj)
 have mi := h.mvL hl hi
 have mj := h.mvL hl hj
 rw [mvs] at mi mj
 rw [mvs, mvs]
 rw [← U5 hi] at gi si
 rw [← U5 hj] at gj sj
 have ri := si.r
 have rj := sj.r
 have hcl := h.cl
 rw [Qgy, Qgy] at he
 obtain ⟨h1, h2⟩ := Qfh (So (by omega) (by omega)) (So (by omega) (by omega)) he
 have hr : (stA a.States i).R.length = (stA a.States j).R.length := by omega
 obtain ⟨l1, l2, l3⟩ := gi.mvsLen gj hr
 obtain ⟨h3, h4⟩ := toks_cut _ _ hr (gi.rIt hcl) (gj.rIt hcl) _ _ h2
 obtain ⟨h5, h6⟩ := toks_cut _ _ l1 gi.ruleIt gj.ruleIt _ _ h4
 exact ⟨h3, h5, mtoks_cut _ _ l3 mi mj h6⟩
theorem keyL_eq {a : Qq} (h : RQ a) {l : List Nat} (hl : Qir a l) {i j : Nat} (hi : i < a.States.length) (hj : j < a.States.length) : keyL a.States l i = keyL a.States l j ↔ keyS a.States l i = keyS a.States l j := by
 have oi : Qgs (l.getD i 0 : Int) := So (by omega) (by have := hl.get i; omega)
 have oj : Qgs (l.getD j 0 : Int) := So (by omega) (by have := hl.get j; omega)
 have hne : ∀ {n : Int} (u : List Int), Qgs n → ([102, 105, 114, 115, 116] : List Int) ≠ itB n ++ 58 :: u := fun {n} u hn he => by
  have hp := hn.pos
  have hd := hn.dig
  cases hq : itB n with
  | nil => rw [hq] at hp; simp at hp
  | cons c t =>
   rw [hq] at hd he
   have h1 := hd c Qlg
   have h2 := (List.cons.inj he).1
   omega
 rw [keyL, keyL, keyS, keyS]
 by_cases h1 : i = 0 <;> by_cases h2 : j = 0
 ·rw [if_pos h1, if_pos h2, if_pos h1, if_pos h2]; simp
 ·rw [if_pos h1, if_neg h2, if_pos h1, if_neg h2]
  exact ⟨fun he => absurd he (hne _ oj), fun he => by cases he⟩
 ·rw [if_neg h1, if_pos h2, if_neg h1, if_pos h2]
  exact ⟨fun he => absurd he.symm (hne _ oi), fun he => by cases he⟩
 ·rw [if_neg h1, if_neg h2, if_neg h1, if_neg h2]
  simp only [Qln, Qk7]
  constructor
  ·intro he
   obtain ⟨g1, g2⟩ := cut_eq _ _ _ _ (it_no oi (.inr rfl)) (it_no oj (.inr rfl)) he
   have g3 := it_inj oi oj g1
   exact ⟨by omega, sign_cut h hl hi hj g2⟩
  ·rintro ⟨g1, g2, g3, g4⟩
   have g5 := mtoks_of g4
   rw [mvs, mvs] at g5
   rw [g1, Qgy, Qgy, g2, g3, g5]
end Go.Rv
namespace Go.Rv
theorem ba_beq (a b : ByteArray) : (a == b) = decide (a = b) := by
 cases a with | mk a => cases b with | mk b =>
 show (a == b) = _
 rw [Qnw, Qme, Qmp]
 constructor
 ·rintro rfl; rfl
 ·intro h; cases h; rfl
instance : LawfulBEq ByteArray where
 eq_of_beq {a b} h := by rw [ba_beq] at h; exact of_decide_eq_true h
 rfl {a} := by rw [ba_beq]; exact Qk1 rfl
theorem Qil (a b : ByteArray) : Cv (a ++ b) = Cv a ++ Cv b := by
 simp only [Cv, ByteArray.data_append, Qmz, Ql6]
theorem bytesI_of {xs : List Int} (h : Gx xs = true) : Cv (ofBytes xs) = xs := by
 obtain ⟨l, rfl⟩ := okBytes_of h
 rw [Qiz]
 rfl
theorem bytesI_inj {a b : ByteArray} (h : Cv a = Cv b) : a = b := by
 have h1 : a.data.toList = b.data.toList := (List.map_inj_right (fun x y (e : ((x.toNat : Nat) : Int) = (y.toNat : Nat)) => UInt8.toNat_inj.1 (by omega))).1 h
 cases a with | mk a => cases b with | mk b =>
 have h2 : a = b := Array.ext' h1
 rw [h2]
theorem Qiy {a b : List Int} (ha : Gx a = true) (hb : Gx b = true) : Gx (a ++ b) = true := by
 rw [Gx, List.all_append, Qlz]
 exact ⟨ha, hb⟩
theorem ok_of {a : List Int} (h : ∀ c ∈ a, 0 ≤ c ∧ c < 256) : Gx a = true := by
 rw [Gx, Qlv]
 intro c hc
 obtain ⟨h1, h2⟩ := h c hc
 rw [Qk1 h1, Qk1 h2]
 rfl
theorem Qj2 {n : Int} (h : Qgs n) : Gx (tok n) = true := by
 refine ok_of fun c hc => ?_
 rcases Qk3.1 hc with hc | hc
 ·have := h.dig c hc; omega
 ·rw [Qk8.1 hc]; omega
theorem T4 {n : Int} (h : Qgs n) : (tok n).length ≤ 5 := by
 have := h.len
 rw [tok, Qky, Qkw]; omega
theorem it_size {n : Int} (h : Qgs n) : (itoaS n).size ≤ 4 := by
 have := h.len
 rw [itB, Qik] at this
 exact this
theorem put1 {K : Nat} {n : Int} (h0 : -1 ≤ n) (h1 : n < 600) {acc : List Int} (hl : acc.length ≤ 1000000) : Ji K n acc = some (acc ++ tok n) := by
 have hs := it_size (So h0 h1)
 have e : Cv (⟨#[32]⟩ : ByteArray) = [32] := rfl
 have hsz : (itoaS n ++ (⟨#[32]⟩ : ByteArray)).size ≤ 5 := by rw [ByteArray.size_append]; show (itoaS n).size + 1 ≤ 5; omega
 rw [Ji, strconv_Itoa, if_pos (by omega), bS, Z4 (by show (itoaS n).size + 1 ≤ 9223372036854775807; omega), V3, Y2, bS, Z4 (Zo.2 ⟨by simp only [maxLen]; omega, by omega⟩), bS]
 dsimp only
 rw [Qil, e]
 rfl
theorem put0 {K : Nat} {n : Int} (h0 : -1 ≤ n) (h1 : n < 600) : T2 K n [] = some (tok n) := put1 (acc := []) h0 h1 (by simp)
theorem mtok_ok {l : List Nat} {m : Qf} (h : mvOkL l m) : Gx (Qjw l m) = true ∧ (Qjw l m).length ≤ 13 := by
 obtain ⟨h1, h2, h3⟩ := h
 have i0 : Qgs (-1) := So (by omega) (by omega)
 have i1 : Qgs (l.getD m.To.toNat 0 : Int) := So (by omega) (by omega)
 have j1 : Qgs (m.Ops.length : Int) := So (by omega) (by omega)
 rw [Qjw]
 split
 ·exact ⟨Qj2 i0, by have := T4 i0; omega⟩
 ·refine ⟨Qiy (Qj2 i1) (Qiy (ok_of fun c hc => by have := h1 c hc; omega) (Qj2 j1)), ?_⟩
  have := T4 i1
  have := T4 j1
  rw [Qky, Qky]; omega
theorem F3 {l : List Nat} {i : Nat} (h : i < l.length) : Ys (Zv l) (i : Int) = some ((l.getD i 0 : Nat) : Int) := by
 rw [Q3 (by rw [Zv, Qk2]; exact h), Q4 h]
 simp [Zv]
theorem sign_l2 (K : Nat) (l : List Nat) (ms : List Qf) (hl : ms.length ≤ 7000) (hm : ∀ m ∈ ms, mvOkL l m ∧ m.To < l.length) : ∀ (q k j : Nat) (acc : List Int), ms.length - j = q → q < k → 0 < acc.length → acc.length ≤ 1000 + 13 * j → Gx acc = true →
  G3 K k ms (ms.length : Int) (j : Int) (Zv l) acc = some (ofBytes (acc ++ ((ms.drop j).map (Qjw l)).flatten)) := by
 intro q
 induction q with
 | zero =>
  intro k j acc hq hk h0 h1 h2
  obtain ⟨k, rfl⟩ := Qoe k (by omega)
  rw [G3]
  dsimp only
  rw [Qkx (by omega), cF, Qlb (by omega), Z4 h0, Z4 h2, Qmx, List.flatten_nil, Qli]
 | succ q ih =>
  intro k j acc hq hk h0 h1 h2
  obtain ⟨k, rfl⟩ := Qoe k (by omega)
  have hj : j < ms.length := by omega
  obtain ⟨hmv, hto⟩ := hm _ (Qkz hj)
  have hw := Mf (n := j) (by omega)
  have hlt : (j : Int) < (ms.length : Int) := by omega
  obtain ⟨o1, o2⟩ := mtok_ok hmv
  have hih := ih k (j + 1) (acc ++ Qjw l ms[j]) (by omega) (by omega) (by rw [Qky]; omega) (by rw [Qky]; omega) (Qiy h2 o1)
  rw [G3]
  dsimp only
  rw [Qk1 hlt, cT, Q3 hj, bS, Qk4 hj, Qlk, Qlo, ← Qk0, ← hih, hw]
  generalize ms[j] = m at *
  obtain ⟨g1, g2, g3⟩ := hmv
  by_cases h3 : m.To < 0
  ·rw [Qk1 h3, cT, put1 (by omega) (by omega) (by omega), bS, Qjw, if_pos h3]
  ·obtain ⟨x, hx⟩ : ∃ x : Nat, m.To = (x : Int) := ⟨m.To.toNat, by omega⟩
   have hl1 := T4 (So (n := (l.getD x 0 : Int)) (by omega) (by rw [hx, Qk5] at g3; omega))
   have hx2 : l.getD x 0 < 500 := by rw [hx, Qk5] at g3; exact g3
   rw [Qkx h3, cF, Qjw, if_neg h3, hx, Qk5, F3 (by omega), bS, put1 (by omega) (by omega) (by omega), bS, He, Y2, bS, Z4 (Zo.2 ⟨by simp only [maxLen, Qky]; omega, by simp only [Qky]; omega⟩), bS]
   dsimp only
   rw [put1 (by omega) (by omega) (by simp only [Qky]; omega), bS]
   simp only [Qk0]
theorem sign_l1 (K : Nat) (l : List Nat) (s : Qa) (hs : Qd5 s) (hK : 10000 ≤ K) (hr : ∀ x ∈ s.Rule, -1 ≤ x ∧ x < 600) (hm : ∀ m ∈ s.Next.flatten, mvOkL l m ∧ m.To < l.length) : ∀ (q k j : Nat) (acc : List Int), s.Rule.length - j = q → q < k → 0 < acc.length → acc.length ≤ 100 + 5 * j → j ≤ s.Rule.length → Gx acc = true →
  K1 K k s (s.Rule.length : Int) (j : Int) (Zv l) acc = some (ofBytes (acc ++ (((s.Rule.drop j).map tok).flatten ++ (s.Next.flatten.map (Qjw l)).flatten))) := by
 have hn := hs.next
 have hf := hs.flat
 have hrl := hs.rule
 intro q
 induction q with
 | zero =>
  intro k j acc hq hk h0 h1 hj h2
  obtain ⟨k, rfl⟩ := Qoe k (by omega)
  rw [K1]
  dsimp only
  have := sign_l2 K l s.Next.flatten (by omega) hm s.Next.flatten.length K 0 acc rfl (by omega) h0 (by omega) h2
  rw [Qk6, Qlj] at this
  rw [Qkx (by omega), cF, Qlb (by omega), moves_eq K s (by omega) (by omega) (by omega), bS, this, Qmx, List.flatten_nil, Qlc]
 | succ q ih =>
  intro k j acc hq hk h0 h1 hjl h2
  obtain ⟨k, rfl⟩ := Qoe k (by omega)
  have hj : j < s.Rule.length := by omega
  obtain ⟨g1, g2⟩ := hr _ (Qkz hj)
  have hlt : (j : Int) < (s.Rule.length : Int) := by omega
  have hit := So g1 g2
  have := T4 hit
  rw [K1]
  dsimp only
  rw [Qk1 hlt, cT, Q3 hj, bS, put1 g1 g2 (by omega), bS, Mf (n := j) (by omega), ih k (j + 1) _ (by omega) (by omega) (by rw [Qky]; omega) (by rw [Qky]; omega) (by omega) (Qiy h2 (Qj2 hit)), Qk4 hj, Qlk, Qlo]
  simp only [Qk0]
theorem sign_l0 (K : Nat) (l : List Nat) (s : Qa) (hs : Qd5 s) (hK : 10000 ≤ K) (hR : ∀ x ∈ s.R, -1 ≤ x ∧ x < 600) (hr : ∀ x ∈ s.Rule, -1 ≤ x ∧ x < 600) (hm : ∀ m ∈ s.Next.flatten, mvOkL l m ∧ m.To < l.length) : ∀ (q k j : Nat) (acc : List Int), s.R.length - j = q → q < k → 0 < acc.length → acc.length ≤ 5 + 5 * j → j ≤ s.R.length → Gx acc = true →
  K2 K k s (s.R.length : Int) (j : Int) (Zv l) acc = some (ofBytes (acc ++ (((s.R.drop j).map tok).flatten ++ ((s.Rule.map tok).flatten ++ (s.Next.flatten.map (Qjw l)).flatten)))) := by
 have hn := hs.r
 have hrl := hs.rule
 intro q
 induction q with
 | zero =>
  intro k j acc hq hk h0 h1 hj h2
  obtain ⟨k, rfl⟩ := Qoe k (by omega)
  rw [K2]
  dsimp only
  have := sign_l1 K l s hs hK hr hm s.Rule.length K 0 acc rfl (by omega) h0 (by omega) (by omega) h2
  rw [Qk6, Qlj] at this
  rw [Qkx (by omega), cF, Qlb (by omega), this, Qmx, List.flatten_nil, Qlc]
 | succ q ih =>
  intro k j acc hq hk h0 h1 hjl h2
  obtain ⟨k, rfl⟩ := Qoe k (by omega)
  have hj : j < s.R.length := by omega
  obtain ⟨g1, g2⟩ := hR _ (Qkz hj)
  have hlt : (j : Int) < (s.R.length : Int) := by omega
  have hit := So g1 g2
  have := T4 hit
  rw [K2]
  dsimp only
  rw [Qk1 hlt, cT, Q3 hj, bS, put1 g1 g2 (by omega), bS, Mf (n := j) (by omega), ih k (j + 1) _ (by omega) (by omega) (by rw [Qky]; omega) (by rw [Qky]; omega) (by omega) (Qiy h2 (Qj2 hit)), Qk4 hj, Qlk, Qlo]
  simp only [Qk0]
theorem sign_ok {K : Nat} (hK : 10000 ≤ K) {a : Qq} (h : RQ a) {l : List Nat} (hl : Qir a l) {i : Nat} (hi : i < a.States.length) : Qc3 K a.States[i] (Zv l) = some (ofBytes (Qgy l (stA a.States i))) := by
 have hs := h.small (Qkz hi)
 have hq := h.st _ (Qkz hi)
 have hm := h.mvL hl hi
 have hto := h.toOk i hi
 have hr := hs.r
 have hcl := h.cl
 rw [mvs, U5 hi] at hm
 rw [mvs, U5 hi] at hto
 have i0 : Qgs (a.States[i].R.length : Int) := So (by omega) (by omega)
 have := sign_l0 K l a.States[i] hs hK (fun x hx => by have := risesF_mem _ (-1) hq.r x hx; omega) (fun x hx => by have := hq.rule x hx; omega) (fun m hm' => ⟨hm m hm', by rw [hl.len]; exact hto m hm'⟩) a.States[i].R.length K 0 (tok (a.States[i].R.length : Int)) rfl (by omega) (by rw [tok, Qky, Qkw]; omega) (T4 i0) (Qla _) (Qj2 i0)
 rw [Qk6, Qlj] at this
 rw [Qc3, put0 (by omega) (by omega), bS, this, Qgy, U5 hi]
def Qhl (U : List ByteArray) : List (ByteArray × Int) := (U.zipIdx).map fun p => (p.1, (p.2 : Int))
theorem Qka (U : List ByteArray) (k : ByteArray) : Qhl (U ++ [k]) = Qhl U ++ [(k, (U.length : Int))] := by
 simp [Qhl, List.zipIdx_append]
theorem knownM_len (U : List ByteArray) : (Qhl U).length = U.length := by simp [Qhl]
theorem lookup_app {α β : Type} [BEq α] [LawfulBEq α] (x : α) : ∀ (A B : List (α × β)), (A ++ B).lookup x = (A.lookup x).or (B.lookup x) := by
 intro A
 induction A with
 | nil => intro B; rfl
 | cons p A ih =>
  intro B
  rw [Qmk, Qmc, Qmc]
  cases x == p.1 with
  | true => rfl
  | false => exact ih B
def posK {κ : Type} [DecidableEq κ] (U : List κ) (x : κ) : Nat := U.idxOf x
theorem posK_in {κ : Type} [DecidableEq κ] {V W : List κ} {x : κ} (h : x ∈ V) : posK (V ++ W) x = posK V x := by rw [posK, posK, Qn1, if_pos h]
theorem posK_new {κ : Type} [DecidableEq κ] {V : List κ} {x : κ} (h : x ∉ V) : posK (V ++ [x]) x = V.length := by rw [posK, Qn1, if_neg h]; simp
theorem posK_lt {κ : Type} [DecidableEq κ] {U : List κ} {x : κ} (h : x ∈ U) : posK U x < U.length := Qma.2 h
theorem dealF_cons {κ : Type} [DecidableEq κ] (U : List κ) (k : κ) (l : List κ) : Sp U (k :: l) = posK (Qhz U k) k :: Sp (Qhz U k) l := rfl
theorem look_rev (x : ByteArray) : ∀ (q : Nat) (U : List ByteArray), U.length = q → (Qhl U).lookup x = if x ∈ U then some ((posK U x : Nat) : Int) else none := by
 intro q
 induction q with
 | zero => intro U hU; rw [Qmu.1 hU]; rfl
 | succ q ih =>
  intro U hU
  rcases List.eq_nil_or_concat U with rfl | ⟨V, k, rfl⟩
  ·simp at hU
  ·rw [List.concat_eq_append] at hU ⊢
   rw [Qka, lookup_app, ih V (by simpa using hU)]
   by_cases hx : x ∈ V
   ·rw [if_pos hx, if_pos (Qk3.2 (.inl hx)), posK_in hx]
    rfl
   ·rw [if_neg hx, Option.none_or, Qmc]
    by_cases hk : x = k
    ·subst hk
     rw [if_pos (Qk3.2 (.inr (Qk8.2 rfl))), Qmn, posK_new hx]
    ·rw [if_neg (fun hc => by
      rcases Qk3.1 hc with hc | hc
      ·exact hx hc
      ·exact hk (Qk8.1 hc)), Qlf.2 hk]
     rfl
theorem look (x : ByteArray) (U : List ByteArray) : (Qhl U).lookup x = if x ∈ U then some ((posK U x : Nat) : Int) else none := look_rev x U.length U rfl
def Qjx (S : List Qa) (l : List Nat) (i : Nat) : ByteArray := if i = 0 then ⟨#[102, 105, 114, 115, 116]⟩ else (itoaS (l.getD i 0 : Int) ++ (⟨#[58]⟩ : ByteArray)) ++ ofBytes (Qgy l (stA S i))
def I8 (S : List Qa) (l : List Nat) : List ByteArray := (List.range S.length).map (Qjx S l)
theorem sign_bytes {a : Qq} (h : RQ a) {l : List Nat} (hl : Qir a l) {i : Nat} (hi : i < a.States.length) : Gx (Qgy l (stA a.States i)) = true ∧ (Qgy l (stA a.States i)).length ≤ 100000 := by
 have hs := h.small (Qkz hi)
 have hq := h.st _ (Qkz hi)
 have hm := h.mvL hl hi
 rw [mvs] at hm
 rw [← U5 hi] at hs hq
 have hr := hs.r
 have hrl := hs.rule
 have hcl := h.cl
 have hfl := hs.flat
 have i0 : Qgs ((stA a.States i).R.length : Int) := So (by omega) (by omega)
 have f : ∀ (xs : List Int), (∀ x ∈ xs, Qgs x) → Gx (xs.map tok).flatten = true ∧ (xs.map tok).flatten.length ≤ xs.length * 5 := fun xs hx => by
  refine ⟨ok_of fun c hc => ?_, ?_⟩
  ·obtain ⟨r, hr, hc⟩ := Qno.1 hc
   obtain ⟨x, hx', rfl⟩ := Qll.1 hr
   rcases Qk3.1 hc with hc | hc
   ·have := (hx x hx').dig c hc; omega
   ·rw [Qk8.1 hc]; omega
  ·have := rows_len (xs.map tok) (c := 5) fun r hr => by
    obtain ⟨x, hx', rfl⟩ := Qll.1 hr
    exact T4 (hx x hx')
   rw [Qk2] at this
   exact this
 obtain ⟨a1, a2⟩ := f _ (hq.rIt hcl)
 obtain ⟨b1, b2⟩ := f _ hq.ruleIt
 have c1 : Gx ((stA a.States i).Next.flatten.map (Qjw l)).flatten = true := by
  rw [Gx, Qlv]
  intro c hc
  obtain ⟨r, hr, hc⟩ := Qno.1 hc
  obtain ⟨m, hm', rfl⟩ := Qll.1 hr
  exact Qlv.1 (mtok_ok (hm m hm')).1 c hc
 have c2 := rows_len ((stA a.States i).Next.flatten.map (Qjw l)) (c := 13) fun r hr => by
  obtain ⟨m, hm', rfl⟩ := Qll.1 hr
  exact (mtok_ok (hm m hm')).2
 rw [Qk2] at c2
 have := T4 i0
 rw [Qgy]
 refine ⟨Qiy (Qj2 i0) (Qiy a1 (Qiy b1 c1)), ?_⟩
 simp only [Qky]
 omega
theorem keyB_bytes {a : Qq} (h : RQ a) {l : List Nat} (hl : Qir a l) {i : Nat} (hi : i < a.States.length) : Cv (Qjx a.States l i) = keyL a.States l i := by
 rw [Qjx, keyL]
 split
 ·rfl
 ·rw [Qil, Qil, bytesI_of (sign_bytes h hl hi).1, Qk0]
  rfl
theorem keyB_eq {a : Qq} (h : RQ a) {l : List Nat} (hl : Qir a l) {i j : Nat} (hi : i < a.States.length) (hj : j < a.States.length) : Qjx a.States l i = Qjx a.States l j ↔ keyS a.States l i = keyS a.States l j := by
 rw [← keyL_eq h hl hi hj, ← keyB_bytes h hl hi, ← keyB_bytes h hl hj]
 exact ⟨fun e => by rw [e], bytesI_inj⟩
theorem deal_zip {κ μ : Type} [DecidableEq κ] [DecidableEq μ] (P : κ → μ → Prop) (hP : ∀ a b x y, P a x → P b y → (a = b ↔ x = y)) : ∀ (zs : List (κ × μ)) (A : List (κ × μ)), (∀ z ∈ zs, P z.1 z.2) → (∀ z ∈ A, P z.1 z.2) →
  Sp (A.map (·.1)) (zs.map (·.1)) = Sp (A.map (·.2)) (zs.map (·.2)) ∧ (Gg (A.map (·.1)) (zs.map (·.1))).length = (Gg (A.map (·.2)) (zs.map (·.2))).length := by
 intro zs
 induction zs with
 | nil => intro A _ _; exact ⟨rfl, by simp [Gg]⟩
 | cons z zs ih =>
  intro A hz hA
  have hpz := hz z Qlg
  have hmem : z.1 ∈ A.map (·.1) ↔ z.2 ∈ A.map (·.2) := by
   constructor
   ·intro h
    obtain ⟨y, hy, e⟩ := Qll.1 h
    exact Qll.2 ⟨y, hy, (hP _ _ _ _ (hA y hy) hpz).1 e⟩
   ·intro h
    obtain ⟨y, hy, e⟩ := Qll.1 h
    exact Qll.2 ⟨y, hy, (hP _ _ _ _ (hA y hy) hpz).2 e⟩
  have hidx : ∀ B : List (κ × μ), (∀ z ∈ B, P z.1 z.2) → (B.map (·.1)).idxOf z.1 = (B.map (·.2)).idxOf z.2 := by
   intro B
   induction B with
   | nil => intro _; rfl
   | cons y B ihB =>
    intro hB
    have hy := hP _ _ _ _ (hB y Qlg) hpz
    rw [Qlk, Qlk, List.idxOf_cons, List.idxOf_cons, ihB fun w hw => hB w (Qld _ hw)]
    by_cases he : y.1 = z.1
    ·rw [Qmp.2 he, Qmp.2 (hy.1 he)]
    ·rw [Qlf.2 he, Qlf.2 fun e => he (hy.2 e)]
  have hadd : ∃ B : List (κ × μ), Qhz (A.map (·.1)) z.1 = B.map (·.1) ∧ Qhz (A.map (·.2)) z.2 = B.map (·.2) ∧ ∀ z ∈ B, P z.1 z.2 := by
   rw [Qhz, Qhz]
   by_cases h : z.1 ∈ A.map (·.1)
   ·rw [if_pos h, if_pos (hmem.1 h)]
    exact ⟨A, rfl, rfl, hA⟩
   ·rw [if_neg h, if_neg (fun e => h (hmem.2 e))]
    refine ⟨A ++ [z], by simp, by simp, fun w hw => ?_⟩
    rcases Qk3.1 hw with hw | hw
    ·exact hA w hw
    ·rw [Qk8.1 hw]; exact hpz
  obtain ⟨B, e1, e2, hB⟩ := hadd
  obtain ⟨g1, g2⟩ := ih B (fun w hw => hz w (Qld _ hw)) hB
  rw [Qlk, Qlk, Sp, Sp, Gg, Gg, e1, e2]
  exact ⟨by rw [g1, hidx B hB], g2⟩
theorem keysBA_deal {a : Qq} (h : RQ a) {l : List Nat} (hl : Qir a l) : Sp [] (I8 a.States l) = Qhj a.States l ∧ (Gg [] (I8 a.States l)).length = manyB a.States l := by
 have := deal_zip (fun k s => ∃ i, i < a.States.length ∧ k = Qjx a.States l i ∧ s = keyS a.States l i) (fun a' b x y ⟨i, hi, h1, h2⟩ ⟨j, hj, h3, h4⟩ => by rw [h1, h2, h3, h4]; exact keyB_eq h hl hi hj) ((List.range a.States.length).map fun i => (Qjx a.States l i, keyS a.States l i)) [] (fun z hz => by
  obtain ⟨i, hi, rfl⟩ := Qll.1 hz
  exact ⟨i, Ql5.1 hi, rfl, rfl⟩) (fun z hz => by cases hz)
 simp only [Qoc, Qmx] at this
 exact this
theorem blocks_l1 (K : Nat) (hK : 10000 ≤ K) {a : Qq} (h : RQ a) {l : List Nat} (hl : Qir a l) (go : Int → Qq → (List Int) → Option (List Int)) (many : Nat) : ∀ (q k i : Nat) (U : List ByteArray) (X : List Nat), a.States.length - i = q → q < k → i ≤ a.States.length → X.length = i → U.length ≤ i →
  V7 K go k (many : Int) a (a.States.length : Int) (i : Int) (Zv l) (Qhl U) (Zv X ++ List.replicate (a.States.length - i) 0) = bif ((Gg U ((I8 a.States l).drop i)).length : Int) == (many : Int) then some (Zv (X ++ Sp U ((I8 a.States l).drop i))) else go ((Gg U ((I8 a.States l).drop i)).length : Int) a (Zv (X ++ Sp U ((I8 a.States l).drop i))) := by
 have hn := h.n2
 intro q
 induction q with
 | zero =>
  intro k i U X hq hk hi hX hU
  obtain ⟨k, rfl⟩ := Qoe k (by omega)
  have e0 : a.States.length - i = 0 := by omega
  have e1 : (I8 a.States l).drop i = [] := Qlb (by rw [I8, Qk2, Qlq]; omega)
  rw [V7]
  dsimp only
  rw [Qkx (by omega), cF, e0, e1, knownM_len, Gg, Sp, List.replicate_zero, Qli, Qli]
 | succ q ih =>
  intro k i U X hq hk hi hX hU
  obtain ⟨k, rfl⟩ := Qoe k (by omega)
  have hil : i < a.States.length := by omega
  have hlt : (i : Int) < (a.States.length : Int) := by omega
  have e1 : a.States.length - i = (a.States.length - (i + 1)) + 1 := by omega
  have hkl : i < (I8 a.States l).length := by rw [I8, Qk2, Qlq]; exact hil
  have hki : (I8 a.States l)[i] = Qjx a.States l i := by simp [I8]
  have hcl : (Zv X).length = i := by rw [Zv, Qk2]; exact hX
  have hj2 : Kb K (V7 K go k) (many : Int) (i : Int) (Qjx a.States l i) a (a.States.length : Int) (i : Int) (Zv l) (Qhl U) (Zv X ++ 0 :: List.replicate (a.States.length - (i + 1)) 0) = bif ((Gg U ((I8 a.States l).drop i)).length : Int) == (many : Int) then some (Zv (X ++ Sp U ((I8 a.States l).drop i))) else go ((Gg U ((I8 a.States l).drop i)).length : Int) a (Zv (X ++ Sp U ((I8 a.States l).drop i))) := by
   have hadl : (Qhz U (Qjx a.States l i)).length ≤ i + 1 := by
    rw [Qhz]; split
    ·omega
    ·rw [Qky, Qkw]; omega
   have h3 := ih k (i + 1) (Qhz U (Qjx a.States l i)) (X ++ [posK (Qhz U (Qjx a.States l i)) (Qjx a.States l i)]) (by omega) (by omega) (by omega) (by rw [Qky, Qkw]; omega) hadl
   have hc : Zv (X ++ [posK (Qhz U (Qjx a.States l i)) (Qjx a.States l i)]) = Zv X ++ [((posK (Qhz U (Qjx a.States l i)) (Qjx a.States l i) : Nat) : Int)] := by simp [Zv]
   rw [hc, Qk0, Ql4, Qk0, Ql4] at h3
   rw [Qk4 hkl, hki, Gg, dealF_cons, ← h3]
   have hg := Qih (Zv X) (List.replicate (a.States.length - (i + 1)) (0 : Int)) 0
   have hs := fun v => Qh9 (Zv X) (List.replicate (a.States.length - (i + 1)) (0 : Int)) 0 v
   rw [hcl] at hg
   rw [hcl] at hs
   rw [Kb, look]
   by_cases hm : Qjx a.States l i ∈ U
   ·have ha : Qhz U (Qjx a.States l i) = U := by rw [Qhz, if_pos hm]
    rw [if_pos hm, Option.isSome_some, Qly, cF, Ka, hg, bS, look, if_pos hm, Qmd, Qk5, hs, Mf (n := i) (by omega), ha]
   ·have ha : Qhz U (Qjx a.States l i) = U ++ [Qjx a.States l i] := by rw [Qhz, if_neg hm]
    have hin : Qjx a.States l i ∈ U ++ [Qjx a.States l i] := Qk3.2 (.inr (Qk8.2 rfl))
    rw [if_neg hm, Option.isSome_none, Qlx, cT, Z4 rfl, knownM_len, ← Qka, Ka, hg, bS, look, if_pos hin, Qmd, Qk5, hs, Mf (n := i) (by omega), ha]
  rw [V7]
  dsimp only
  rw [Qk1 hlt, cT, Q3 hil, bS, e1, Qmi]
  by_cases h0 : i = 0
  ·subst h0
   rw [Qkx (by omega), cF]
   exact hj2
  ·have hgl := hl.get i
   have hsz := it_size (So (n := (l.getD i 0 : Int)) (by omega) (by omega))
   have hsg := (sign_bytes h hl hil)
   have hsz2 : (ofBytes (Qgy l (stA a.States i))).size ≤ 100000 := by rw [← Qik, bytesI_of hsg.1]; exact hsg.2
   rw [Qk1 (by omega), cT, F3 (by rw [hl.len]; exact hil), bS, strconv_Itoa, if_pos (by omega), bS, Z4 (by show (itoaS (l.getD i 0 : Int)).size + 1 ≤ 9223372036854775807; omega), sign_ok hK h hl hil, bS, Z4 (by rw [ByteArray.size_append]; show (itoaS (l.getD i 0 : Int)).size + 1 + _ ≤ 9223372036854775807; omega)]
   rw [Qjx, if_neg h0] at hj2
   exact hj2
theorem next_num {a : Qq} (h : RQ a) (l : List Nat) : Qir a (Qhj a.States l) :=
 ⟨Qj8 _ _, fun x hx => by
  rw [Qhj, Qhr] at hx
  obtain ⟨k, hk, rfl⟩ := Qll.1 hx
  have h1 := posK_lt ((N6 (Qgj a.States l) [] k).2 (.inr hk))
  show posK (Gg [] (Qgj a.States l)) k < 500
  have h2 := manyB_le a.States l
  have := h.n2
  rw [manyB] at h2
  omega⟩
theorem castL_repl (n : Nat) : Zv (List.replicate n 0) = List.replicate n 0 := by rw [Zv, Qm2]; rfl
theorem blocks_l0 (K : Nat) (hK : 10000 ≤ K) {a : Qq} (h : RQ a) : ∀ (k' k : Nat) (l : List Nat) (many : Nat), k' ≤ k → Qir a l → many ≤ (Gg [] l).length → a.States.length < k' + many →
  Wa K k (many : Int) a (Zv l) = some (Zv (blkS a.States k' l many)) := by
 intro k'
 induction k' with
 | zero =>
  intro k l many _ h1 h2 h3
  have := (Qhk h1.len).1
  have := manyB_le a.States l
  omega
 | succ k' ih =>
  intro k l many hk h1 h2 h3
  obtain ⟨k, rfl⟩ := Qoe k (by omega)
  have hn := h.n2
  have hcl : (Zv l).length = a.States.length := by rw [Zv, Qk2]; exact h1.len
  have h4 := blocks_l1 K hK h h1 (Wa K k) many a.States.length K 0 [] [] rfl (by omega) (Qla _) rfl (Qla _)
  obtain ⟨d1, d2⟩ := keysBA_deal h h1
  rw [Qk6, Qlj, Qlc, d1, d2, Qmb] at h4
  have hle := (Qhk h1.len).1
  rw [Wa]
  dsimp only
  rw [hcl, Z4 (by omega), Z4 (Zo.2 ⟨by simp only [maxLen]; omega, by omega⟩), Qk5, blkS]
  refine Eq.trans h4 ?_
  by_cases he : manyB a.States l = many
  ·rw [if_pos he, he, Qmn, cT]
  ·rw [if_neg he, Qlf.2 (by omega), cF]
   exact ih k _ _ (by omega) (next_num h l) (by rw [uniq_next]; exact Qk9 _) (by omega)
theorem blocks_ok {K : Nat} (hK : 10000 ≤ K) {a : Qq} (h : Tz a) : Oc K a = some (Zv (Uk a.States)) := by
 have hn := h.1.n2
 have := blocks_l0 K hK h.1 (a.States.length + 1) K (List.replicate a.States.length 0) 0 (by omega) ⟨Ql3 .., fun x hx => by rw [(List.mem_replicate.1 hx).2]; omega⟩ (Qla _) (by omega)
 rw [castL_repl] at this
 rw [Oc, h.auto (by omega), bS, Qly, cF, Z4 (by omega), Z4 (Zo.2 ⟨by simp only [maxLen]; omega, by omega⟩), Qk5]
 exact this
end Go.Rv
namespace Go.Rv
theorem Qed {α : Type} {l : List α} {i : Nat} (d : α) (h : i < l.length) : Ys l (i : Int) = some (l.getD i d) := by rw [Q3 h, Q4 h]
theorem Qc7 {α : Type} {l : List α} {i : Nat} (h : i < l.length) : l.take (i + 1) = l.take i ++ [l[i]] := by
 rw [List.take_add_one, List.getElem?_eq_getElem h]; rfl
theorem idx_new {l : List Nat} {i : Nat} (h : i < l.length) (hn : l[i] ∉ l.take i) : l.idxOf l[i] = i := by
 obtain ⟨h1, h2, h3⟩ := Qkd h
 refine Decidable.byContradiction fun hc => hn ?_
 have : l[l.idxOf l[i]] ∈ l.take i := by
  rw [List.mem_take_iff_getElem]
  exact ⟨l.idxOf l[i], by omega, rfl⟩
 rw [Qmt h2] at this
 exact this
theorem join_l0 (K : Nat) (t : Qc) (l : List Nat) (hl : l.length ≤ 256) : ∀ (q k i : Nat) (M : List (Int × Int)), l.length - i = q → q < k → i ≤ l.length → (∀ v : Nat, M.lookup (v : Int) = if v ∈ l.take i then some ((l.idxOf v : Nat) : Int) else none) →
  Yt K k (Zv l) (l.length : Int) (i : Int) t M ((Qas l).take i) = Vr K t (Qas l) := by
 intro q
 induction q with
 | zero =>
  intro k i M hq hk hi hM
  obtain ⟨k, rfl⟩ := Qoe k (by omega)
  rw [Yt]
  dsimp only
  rw [Qkx (by omega), cF, Ql9 (by rw [Qas, Qk2]; omega), bind_id]
 | succ q ih =>
  intro k i M hq hk hi hM
  obtain ⟨k, rfl⟩ := Qoe k (by omega)
  have hil : i < l.length := by omega
  have hlt : (i : Int) < (l.length : Int) := by omega
  have hjl : i < (Qas l).length := by rw [Qas, Qk2]; exact hil
  have hjt : (Qas l).take (i + 1) = (Qas l).take i ++ [((l.idxOf l[i] : Nat) : Int)] := by
   rw [Qc7 hjl]
   have := Qho hil
   rw [Q4 hjl] at this
   rw [this]
  have hm := hM l[i]
  have htl : ((Qas l).take i).length ≤ 256 := by rw [Qlt]; omega
  rw [Yt]
  dsimp only
  rw [Qk1 hlt, cT, F3 hil, bS, Q4 hil, hm]
  by_cases hin : l[i] ∈ l.take i
  ·rw [if_pos hin, Option.isSome_some, Qly, cF, Us, hm, if_pos hin, Qmd, Z4 (Zo.2 ⟨by simp only [maxLen, Qkw]; omega, by simp only [Qkw]; omega⟩), Mf (n := i) (by omega), ← hjt]
   refine ih k (i + 1) M (by omega) (by omega) (by omega) fun v => ?_
   rw [hM, Qc7 hil]
   by_cases hv : v ∈ l.take i
   ·rw [if_pos hv, if_pos (Qk3.2 (.inl hv))]
   ·rw [if_neg hv, if_neg fun hc => by
     rcases Qk3.1 hc with hc | hc
     ·exact hv hc
     ·rw [Qk8.1 hc] at hv; exact hv hin]
  ·have hM2 : ∀ v : Nat, (M ++ [(((l[i] : Nat) : Int), (i : Int))]).lookup (v : Int) = if v ∈ l.take (i + 1) then some ((l.idxOf v : Nat) : Int) else none := fun v => by
    rw [lookup_app, hM, Qc7 hil]
    by_cases hv : v ∈ l.take i
    ·rw [if_pos hv, if_pos (Qk3.2 (.inl hv))]; rfl
    ·rw [if_neg hv, Option.none_or, Qmc]
     by_cases he : v = l[i]
     ·subst he
      rw [Qmn, if_pos (Qk3.2 (.inr (Qk8.2 rfl))), idx_new hil hin]
     ·rw [Qlf.2 (by omega), if_neg fun hc => by
       rcases Qk3.1 hc with hc | hc
       ·exact hv hc
       ·exact he (Qk8.1 hc)]
      rfl
   have hin2 : l[i] ∈ l.take (i + 1) := by rw [Qc7 hil]; exact Qk3.2 (.inr (Qk8.2 rfl))
   rw [if_neg hin, Option.isSome_none, Qlx, cT, Z4 rfl, Us, hM2, if_pos hin2, Qmd, Z4 (Zo.2 ⟨by simp only [maxLen, Qkw]; omega, by simp only [Qkw]; omega⟩), Mf (n := i) (by omega), ← hjt]
   exact ih k (i + 1) _ (by omega) (by omega) (by omega) hM2
theorem Tz.withS {a : Qq} (h : Tz a) {S : List Qa} (hs : RQ (withS a S)) : Tz (withS a S) := ⟨hs, h.2⟩
theorem join_ok' {K : Nat} (hK : 10000 ≤ K) {a : Qq} (h : Tz a) : Gk K ⟨a⟩ = some ⟨withS a (Sn a.States)⟩ := by
 have hb := (Ll h.1.toOk).len
 have hn := h.1.n2
 have := join_l0 K ⟨a⟩ (Uk a.States) (by omega) (Uk a.States).length K 0 [] rfl (by omega) (Qla _) fun v => by rw [List.take_zero, if_neg Qnn]; rfl
 rw [Qk6, List.take_zero, send1_of (by omega) h.1 (by rw [Qas, Qk2, hb])] at this
 rw [Gk, blocks_ok hK h, bS, show (Zv (Uk a.States)).length = (Uk a.States).length by rw [Zv, Qk2]]
 exact this
theorem of_ok {a : Qq} (h : Tz a) {K : Nat} (hK : 10000000 ≤ K) : ∃ l, Ty a.States l ∧ Qh6 K a = some (Qek a l, 0) := by
 obtain ⟨l, h1, h2⟩ := bury_ok' h hK
 have hcl := h.1.cl
 have hB := h.withS (h.1.bury l)
 refine ⟨l, h1, ?_⟩
 rw [Qh6, h.auto (by omega), bS, Qly, cF, G9, Z4 (Zo.2 ⟨by simp only [maxLen, Qlu]; omega, by simp only [Qlu]; omega⟩), bS, Qlc]
 have e : (⟨a.Split, a.Counts, a.States⟩ : Qq) = a := rfl
 rw [e, h2, bS, Qek, Qej]
 dsimp only [Go.Rv.withS] at hB ⊢
 by_cases hc : a.Counts.length = 0
 ·rw [Qmp.2 (show (a.Counts.length : Int) = 0 by omega), cT, join_ok' (by omega) hB, bS, N1]
  dsimp only [Go.Rv.withS]
  have := keep_ok (K := K) (by omega) (h.1.bury l).join
  dsimp only [Go.Rv.withS] at this
  rw [this, bS, hc, Qmn, if_pos rfl]
 ·rw [Qlf.2 (show (a.Counts.length : Int) ≠ 0 by omega), cF, N1]
  have := keep_ok (K := K) (by omega) (h.1.bury l)
  dsimp only [Go.Rv.withS] at this
  rw [this, bS, Qlf.2 hc, if_neg (by decide)]
def supL {α : Type} (f : α → Nat) (l : List α) : Nat := l.foldr (fun x n => max (f x) n) 0
theorem le_supL {α : Type} (f : α → Nat) : ∀ {l : List α} {x : α}, x ∈ l → f x ≤ supL f l := by
 intro l
 induction l with
 | nil => intro x h; cases h
 | cons y l ih =>
  intro x h
  simp only [supL, List.foldr_cons]
  rcases Ql8.1 h with rfl | h
  ·omega
  ·have := ih h; simp only [supL] at this; omega
theorem shown_add (k : Nat) : Gw (k + 400) = some true := by kernel_rfl
theorem shown_at {K : Nat} (hK : 400 ≤ K) : Gw K = some true := by
 obtain ⟨k, rfl⟩ : ∃ k, K = k + 400 := ⟨K - 400, by omega⟩
 exact shown_add k
end Go.Rv
namespace Go.Rv
theorem Qj6 (to : List Int) (S : List Qa) (i : Nat) : (stA (Nf to S) i).Rule = (stA S i).Rule ∧ (stA (Nf to S) i).R = (stA S i).R := by rw [Qdf]; exact ⟨rfl, rfl⟩
theorem Qig {s t : Qa} (h : s.Rule = t.Rule) : Fa s = Fa t := by rw [Fa, Fa, h]
def allLive (S : List Qa) : Prop := ∀ i, i < S.length → ∀ m ∈ mvs S i, 0 ≤ m.To → Qis S m.To.toNat
theorem bury_live {S : List Qa} {l : List Bool} (hl : Ty S l) {i : Nat} (h : Qis S i) : Qis (X3 S l) i := by
 induction h with
 | rule a b =>
  refine .rule (by rw [X3, H6]; exact a) ?_
  show Fa (stA (Nf (Qht l) S) _) = true
  rw [Qig (Qj6 _ _ _).1]; exact b
 | step m a b c d ih =>
  refine .step m (by rw [X3, H6]; exact a) ?_ c ih
  rw [X3, Qac]
  refine Qll.2 ⟨m, b, ?_⟩
  have hg : (Qht l).getD m.To.toNat (-1) = m.To := by rw [Tt, if_pos ((hl.iff _).2 d)]; omega
  rw [C0, if_pos ⟨c, by rw [hg]; exact c⟩, hg]
theorem bury_all {S : List Qa} {l : List Bool} (hl : Ty S l) : allLive (X3 S l) := fun _ _ m hm h0 => bury_live hl ((hl.iff _).1 (bury_to hm h0).2)
def Qjt (S : List Qa) (i : Nat) : Nat := (Uk S).idxOf ((Uk S).getD i 0)
theorem Qjs {S : List Qa} (hT : toOk S) {i : Nat} (hi : i < S.length) : Qjt S i < S.length ∧ eqL (Uk S) (Qjt S i) i ∧ Qjt S i ≤ i := by
 have hb := Ll hT
 obtain ⟨g1, g2, g3⟩ := Qkd (l := Uk S) (i := i) (by rw [hb.len]; exact hi)
 rw [Qjt, Q4 (by rw [hb.len]; exact hi)]
 exact ⟨by have := hb.len; omega, g3, g1⟩
theorem rep_eq {S : List Qa} {i j : Nat} (h : eqL (Uk S) i j) : Qjt S i = Qjt S j := by rw [Qjt, Qjt, show (Uk S).getD i 0 = (Uk S).getD j 0 from h]
theorem rep_zero {S : List Qa} (hT : toOk S) {i : Nat} (hi : i < S.length) : Qjt S i = 0 ↔ i = 0 := by
 obtain ⟨g1, g2, g3⟩ := Qjs hT hi
 constructor
 ·intro h
  rcases (Ll hT).sim _ _ g1 hi g2 with h' | h'
  ·exact h'.2
  ·omega
 ·intro h; omega
theorem Qkc {S : List Qa} (hT : toOk S) {i : Nat} (hi : i < S.length) {q : Qf} (hq : q ∈ mvs S i) (h0 : 0 ≤ q.To) : C0 (Qas (Uk S)) q = ⟨(Qjt S q.To.toNat : Int), q.Ops⟩ := by
 have hq' := hT i hi q hq
 have hl := (Ll hT).len
 have hj : (Qas (Uk S)).getD q.To.toNat (-1) = (Qjt S q.To.toNat : Int) := by
  rw [Qho (by omega), Qjt, Q4 (by omega)]
 rw [C0, hj, if_pos ⟨h0, by omega⟩]
theorem send_neg {to : List Int} {m : Qf} (h : m.To < 0) : C0 to m = ⟨-1, []⟩ := by rw [C0, if_neg (by omega)]
theorem join_live {S : List Qa} (hT : toOk S) {i : Nat} (h : Qis S i) : Qis (Sn S) (Qjt S i) := by
 have hb := Ll hT
 induction h with
 | @rule i a b =>
  obtain ⟨g1, g2, g3⟩ := Qjs hT a
  refine .rule (by rw [Sn, H6]; exact g1) ?_
  show Fa (stA (Nf (Qas (Uk S)) S) _) = true
  rw [Qig (Qj6 _ _ _).1]
  rcases hb.sim _ _ g1 a g2 with h | h
  ·rw [h.1, ← h.2]; exact b
  ·rw [Qig h.2.2.2.1]; exact b
 | @step i m a b c d ih =>
  obtain ⟨g1, g2, g3⟩ := Qjs hT a
  have key : ∃ q ∈ mvs S (Qjt S i), 0 ≤ q.To ∧ eqL (Uk S) q.To.toNat m.To.toNat := by
   rcases hb.sim _ _ g1 a g2 with h | ⟨_, _, _, _, hl, hk⟩
   ·rw [h.1, ← h.2]; exact ⟨m, b, c, rfl⟩
   ·obtain ⟨k, hk', rfl⟩ := Qlr b
    rcases hk k (by omega) hk' with h | h
    ·omega
    ·exact ⟨_, Qkz _, h.1, h.2.2.2⟩
  obtain ⟨q, hq, h0, he⟩ := key
  refine .step (C0 (Qas (Uk S)) q) (by rw [Sn, H6]; exact g1) (by rw [Sn, Qac]; exact Qll.2 ⟨q, hq, rfl⟩) ?_ ?_
  ·rw [Qkc hT g1 hq h0]; dsimp only; omega
  ·rw [Qkc hT g1 hq h0]; dsimp only; rw [Qk5, rep_eq he]; exact ih
theorem join_all {S : List Qa} (hT : toOk S) (ha : allLive S) : allLive (Sn S) := fun i hi m hm h0 => by
 rw [Sn, H6] at hi
 obtain ⟨q, hq, h1, _, h2⟩ := join_to hT hi hm h0
 have := join_live hT (ha i hi q hq h1)
 rw [h2, Qk5]
 exact this
theorem keep_move {S : List Qa} (hT : toOk S) (h0 : 0 < S.length) {x : Nat} (hx : x ∈ W2 S) {m : Qf} (hm : m ∈ mvs S x) (hc : 0 ≤ m.To) : C0 (Nz S.length (W2 S)) m = ⟨((W2 S).idxOf m.To.toNat : Int), m.Ops⟩ := by
 have ho := N2 hT h0
 have hin := ho.closed x hx m hm hc
 have hg : (Nz S.length (W2 S)).getD m.To.toNat (-1) = ((W2 S).idxOf m.To.toNat : Int) := by rw [Qdw (ho.lt _ hin), if_pos hin]
 rw [C0, hg, if_pos ⟨hc, by omega⟩]
theorem keep_mvs {S : List Qa} {i : Nat} (h : i < (W2 S).length) : mvs (Qhn S) i = (mvs S ((W2 S)[i])).map (C0 (Nz S.length (W2 S))) := by
 rw [mvs, Qkb h, send_flat]; rfl
def Qie (S : List Qa) (l : List Bool) (b : Bool) : List Qa := if b = true then Sn (X3 S l) else X3 S l
theorem mid_spec {S : List Qa} {l : List Bool} (b : Bool) (hT : toOk S) (hl : Ty S l) : toOk (Qie S l b) ∧ (Qie S l b).length = S.length ∧ allLive (Qie S l b) := by
 have h1 := bury_ok (l := l) hT
 have h2 : (X3 S l).length = S.length := by rw [X3, H6]
 rw [Qie]
 split
 ·exact ⟨join_ok h1, by rw [Sn, H6, h2], join_all h1 (bury_all hl)⟩
 ·exact ⟨h1, h2, bury_all hl⟩
theorem trim_mid (S : List Qa) (l : List Bool) (b : Bool) : Qej S l b = Qhn (Qie S l b) := rfl
end Go.Rv

/- Trimming, plainly: what is trimmed is right. -/
import Derived.Test.YtcmfaclkgdmpbaaGreatDoorRpUI
namespace Go.Rv
def withS (a : Qn) (S : List Qa) : Qn := ⟨a.Split, a.Counts, S⟩
def sendOk (S T : List Qa) (to : List Int) : Prop := ∀ i, 1 ≤ i → i < S.length → to.getD i (-1) = -1 ∨ (1 ≤ to.getD i (-1) ∧ to.getD i (-1) < T.length ∧ (stA T (to.getD i (-1)).toNat).R = (stA S i).R)
theorem sendM_ok {S T : List Qa} {to : List Int} (h : sendOk S T to) {R : List Int} {m : Qd} (hm : MvQ S R m) : MvQ T R (Mk to m) := by
 rw [Mk]
 rcases hm with ⟨h1, h2⟩ | ⟨h1, h2, h3, h4⟩
 ·rw [if_neg (by omega)]; exact .inl ⟨rfl, rfl⟩
 ·rcases h m.To.toNat (by omega) (by omega) with g | ⟨g1, g2, g3⟩
  ·rw [if_neg (by omega)]; exact .inl ⟨rfl, rfl⟩
  ·rw [if_pos ⟨by omega, by omega⟩]
   refine .inr ⟨g1, g2, ?_, ?_⟩
   ·dsimp only; rw [g3]; exact h3
   ·dsimp only; rw [g3]; exact h4
theorem sendSt_ok {n : Nat} {many : Int} {S T : List Qa} {to : List Int} (h : sendOk S T to) {s : Qa} (hs : StQ n many S s) : StQ n many T (Og to s) := by
 obtain ⟨h1, h2, h3, h4, h5, h6, h7, h8⟩ := hs
 refine ⟨h1, h2, ?_, h4, h5, h6, fun r hr => ?_, fun r hr m hm => ?_⟩
 ·rw [Og]; dsimp only; rw [Qfw]; exact h3
 ·obtain ⟨q, hq, rfl⟩ := Qgf.1 hr
  rw [Qfw]; exact h7 q hq
 ·obtain ⟨q, hq, rfl⟩ := Qgf.1 hr
  obtain ⟨m', hm', rfl⟩ := Qgf.1 hm
  exact sendM_ok h (h8 q hq m' hm')
theorem RQ.send {a : Qn} (h : RQ a) {to : List Int} (hs : sendOk a.States (D2 to a.States) to) : RQ (withS a (D2 to a.States)) := by
 refine ⟨h.split, h.cl, h.cn, ?_, ?_, ?_, ?_, fun s hs' => ?_⟩
 ·show 1 ≤ (D2 to a.States).length
  rw [Wm]; exact h.n1
 ·show (D2 to a.States).length ≤ 256
  rw [Wm]; exact h.n2
 ·show (stA (D2 to a.States) 0).L = []
  rw [Sv]; exact h.l0
 ·show (stA (D2 to a.States) 0).R = []
  rw [Sv]; exact h.r0
 ·obtain ⟨q, hq, rfl⟩ := Qgf.1 hs'
  exact sendSt_ok hs (h.st q hq)
theorem RQ.bury {a : Qn} (h : RQ a) (l : List Bool) : RQ (withS a (Xi a.States l)) :=
 h.send fun i h1 h2 => by
  rw [Oz]
  split
  ·refine .inr ⟨by omega, by rw [Wm]; omega, ?_⟩
   rw [Sv, Qf1]; rfl
  ·exact .inl rfl
theorem Qfb {l : List Nat} {i : Nat} (h : i < l.length) : l.idxOf l[i] ≤ i ∧ l.idxOf l[i] < l.length ∧ eqL l (l.idxOf l[i]) i := by
 have h1 : l.idxOf l[i] < l.length := Qg9.2 (Qfy h)
 refine ⟨?_, h1, ?_⟩
 ·refine Decidable.byContradiction fun hc => ?_
  have := List.not_of_lt_findIdx (p := (· == l[i])) (xs := l) (i := i) (by rw [List.idxOf] at hc; omega)
  simp at this
 ·rw [eqL, Q2 h1, Q2 h, Qhq h1]
theorem RQ.join {a : Qn} (h : RQ a) : RQ (withS a (Nx a.States)) :=
 h.send fun i h1 h2 => by
  have hb := H1 h.toOk
  have hi : i < (Vn a.States).length := by rw [hb.len]; exact h2
  obtain ⟨g1, g2, g3⟩ := Qfb hi
  rw [Qci hi]
  have hs := hb.sim _ _ (by rw [← hb.len]; exact g2) h2 g3
  rw [Qf1, Wm, Sv]
  rcases hs with hs | ⟨hs1, hs2, hs3, _⟩
  ·omega
  ·refine .inr ⟨by omega, by rw [hb.len] at g2; omega, ?_⟩
   exact hs3
theorem order_zero {S : List Qa} (hT : toOk S) (h0 : 0 < S.length) : 0 < (Jq S).length ∧ (Jq S).getD 0 0 = 0 ∧ (Jq S).idxOf 0 = 0 := by
 obtain ⟨t, ht⟩ := (Ej hT h0).pre
 rw [ht]
 exact ⟨by simp, by simp, by simp [List.idxOf, List.findIdx_cons]⟩
theorem Qe5 {S : List Qa} (hT : toOk S) (h0 : 0 < S.length) : (Jq S).length ≤ S.length := by
 have ho := Ej hT h0
 have := C4 (Jq S) (List.range S.length) ho.nodup fun x hx => Qgo.2 (ho.lt x hx)
 rw [Qgi] at this
 exact this
theorem Qe9 {S : List Qa} {i : Nat} (h : i < (Jq S).length) : stA (Qch S) i = Og (Ef S.length (Jq S)) (stA S ((Jq S)[i])) := by
 rw [Ua (by rw [Tr]; exact h)]
 simp only [Qch, Qgt]
theorem RQ.keep {a : Qn} (h : RQ a) : RQ (withS a (Qch a.States)) := by
 have h0 := h.n1
 have ho := Ej h.toOk (by omega)
 obtain ⟨z1, z2, z3⟩ := order_zero h.toOk (by omega)
 have z4 : (Jq a.States)[0] = 0 := by rw [Q2 z1] at z2; exact z2
 have hs : sendOk a.States (Qch a.States) (Ef a.States.length (Jq a.States)) := fun i h1 h2 => by
  rw [S8 h2]
  split
  ·next hm =>
   have g := Qg9.2 hm
   have gg := Qhq g
   refine .inr ⟨?_, by rw [Tr]; omega, ?_⟩
   ·have : (Jq a.States).idxOf i ≠ 0 := fun e => by
     simp only [e] at gg
     rw [z4] at gg; omega
    omega
   ·rw [Qf1, Qe9 g, gg]; rfl
  ·exact .inl rfl
 refine ⟨h.split, h.cl, h.cn, ?_, ?_, ?_, ?_, fun s hs' => ?_⟩
 ·show 1 ≤ (Qch a.States).length
  rw [Tr]; exact z1
 ·show (Qch a.States).length ≤ 256
  have := Qe5 h.toOk (by omega)
  have := h.n2
  rw [Tr]; omega
 ·show (stA (Qch a.States) 0).L = []
  rw [Qe9 z1, z4]; exact h.l0
 ·show (stA (Qch a.States) 0).R = []
  rw [Qe9 z1, z4]; exact h.r0
 ·obtain ⟨q, hq, rfl⟩ := Qgf.1 hs'
  have hql := ho.lt q hq
  exact sendSt_ok hs (by rw [Ua hql]; exact h.st _ (Qfy hql))
def Tw (a : Qn) (l : List Bool) : Qn := withS a (Sm a.States l (a.Counts.length == 0))
theorem RQ.trim {a : Qn} (h : RQ a) (l : List Bool) : RQ (Tw a l) := by
 rw [Tw, Sm]
 split
 ·exact (h.bury l).join.keep
 ·exact (h.bury l).keep
end Go.Rv
namespace Go.Rv
theorem bind_id {α : Type} (o : Option α) : (o.bind fun v => some v) = o := by cases o <;> rfl
theorem bury_l0 (K : Nat) (t : Qc) (l : List Bool) (hl : l.length ≤ 256) : ∀ (q k i : Nat) (X : List Int), l.length - i = q → q < k → X.length = i → i ≤ l.length →
  Y8 K k l (l.length : Int) (i : Int) t (X ++ List.replicate (l.length - i) 0) = Vi K t (X ++ (Qcm l).drop i) := by
 intro q
 induction q with
 | zero =>
  intro k i X hq hk hX hi
  obtain ⟨k, rfl⟩ := Qjj k (by omega)
  have e0 : l.length - i = 0 := by omega
  rw [Y8]
  dsimp only
  rw [Qfv (by omega), cF, e0, Qf9 (by rw [Qcm, Qfw, Qgi]; omega), bind_id]
  rfl
 | succ q ih =>
  intro k i X hq hk hX hi
  obtain ⟨k, rfl⟩ := Qjj k (by omega)
  have hil : i < l.length := by omega
  have hlt : (i : Int) < (l.length : Int) := by omega
  have e1 : l.length - i = (l.length - (i + 1)) + 1 := by omega
  have hbl : i < (Qcm l).length := by rw [Qcm, Qfw, Qgi]; exact hil
  have hd := Qf2 hbl
  have hb : (Qcm l)[i] = if l[i] = true then (i : Int) else -1 := by
   have := Oz (l := l) (i := i)
   rw [Q2 hbl, Q2 hil] at this
   exact this
  have h3 := fun y => ih k (i + 1) (X ++ [y]) (by omega) (by omega) (by rw [Qfu, Qft]; omega) (by omega)
  simp only [Qfx, Qgw] at h3
  have hset : ∀ y z : Int, (X ++ y :: List.replicate (l.length - (i + 1)) 0).set i z = X ++ z :: List.replicate (l.length - (i + 1)) 0 := fun y z => by
   have := Qc5 X (List.replicate (l.length - (i + 1)) 0) y z
   rw [hX] at this; exact this
  have hget : ∀ y : Int, Xl (X ++ y :: List.replicate (l.length - (i + 1)) 0) (i : Int) = some y := fun y => by
   have := Qdc X (List.replicate (l.length - (i + 1)) 0) y
   rw [hX] at this; exact this
  rw [Y8]
  dsimp only
  rw [Qf0 hlt, cT, Ze hil, bS, e1, Qhg, hget, bS, Qf1, hset, hget, hset, Bx (n := i) (by omega), hd, hb]
  cases hv : l[i] with
  | true => rw [Qg7, cF, if_pos rfl, h3]
  | false => rw [Qg2, cT, bS, if_neg (by decide), h3]
theorem send_of {K : Nat} (hK : 1000 ≤ K) {a : Qn} (h : RQ a) {to : List Int} (ht : to.length = a.States.length) : Vi K ⟨a⟩ to = some ⟨withS a (D2 to a.States)⟩ :=
 send_ok K hK a to h.n2 (fun s hs => h.small hs) fun s hs r hr m hm => by
  obtain ⟨i, hi, rfl⟩ := Qgp hs
  have := h.toOk i hi m (by rw [mvs, Ua hi]; exact Qiu.2 ⟨r, hr, hm⟩)
  omega
theorem send1_of {K : Nat} (hK : 1000 ≤ K) {a : Qn} (h : RQ a) {to : List Int} (ht : to.length = a.States.length) : X3 K ⟨a⟩ to = some ⟨withS a (D2 to a.States)⟩ :=
 send1_ok K hK a to h.n2 (fun s hs => h.small hs) fun s hs r hr m hm => by
  obtain ⟨i, hi, rfl⟩ := Qgp hs
  have := h.toOk i hi m (by rw [mvs, Ua hi]; exact Qiu.2 ⟨r, hr, hm⟩)
  omega
theorem bury_ok' {a : Qn} (h : Th a) {K : Nat} (hK : 10000000 ≤ K) : ∃ l, I5 a.States l ∧ Wz K ⟨a⟩ = some ⟨withS a (Xi a.States l)⟩ := by
 obtain ⟨l, h1, h2⟩ := live_ok h hK
 have hn := h.1.n2
 have hl := h2.len
 have h3 := bury_l0 K ⟨a⟩ l (by omega) l.length K 0 [] rfl (by omega) rfl (Qf7 _)
 rw [Qgb, Qgl, Qf8, Qf8, Qha, send_of (by omega) h.1 (by rw [Qcm, Qfw, Qgi]; exact hl)] at h3
 refine ⟨l, h2, ?_⟩
 rw [Wz]
 dsimp only
 rw [Z3 (by omega), Z3 (Zl.2 ⟨by simp only [maxLen]; omega, by omega⟩), h1, bS, Qf1, ← hl]
 exact h3
def Zm (o : List Nat) : List Int := o.map fun n : Nat => (n : Int)
theorem M2 (n : Nat) (o : List Nat) : (Ef n o).length = n := by rw [Ef, Qfw, Qgi]
theorem keepT_snoc {n x : Nat} {o : List Nat} (hx : x < n) (h : x ∉ o) : (Ef n o).set x (o.length : Int) = Ef n (o ++ [x]) := by
 have _ := hx
 refine Qi9 (by rw [Qgz, M2, M2]) fun i h1 h2 => ?_
 rw [M2] at h2
 have e := S8 (n := n) (o := o ++ [x]) h2
 rw [Q2 (by rw [M2]; exact h2)] at e
 rw [e]
 by_cases hi : x = i
 ·subst hi
  rw [Qii, if_pos (Qfz.2 (.inr (Qf3.2 rfl))), Qi4, if_neg h]
  simp
 ·have e2 := S8 (n := n) (o := o) h2
  rw [Q2 (by rw [M2]; exact h2)] at e2
  rw [List.getElem_set_ne hi, e2]
  by_cases hm : i ∈ o
  ·rw [if_pos hm, if_pos (Qfz.2 (.inl hm)), Qi4, if_pos hm]
  ·rw [if_neg hm, if_neg (fun hc => by
    rcases Qfz.1 hc with hc | hc
    ·exact hm hc
    ·exact hi (Qf3.1 hc).symm)]
theorem keep_l1 (K : Nat) (go : Int → Qc → (List Int) → (List Int) → Option Qc) (x4 : Int) (ms : List Qd) (t : Qc) (n : Nat) (hm : ∀ m ∈ ms, m.To < n) (hl : ms.length ≤ 100000) : ∀ (q k j : Nat) (o : List Nat), ms.length - j = q → q < k → o.length ≤ 1000 + j →
  Yu K go k x4 ms (ms.length : Int) (j : Int) t (Ef n o) (Zm o) = go (IntKind.i64.wrap (x4 + 1)) t (Ef n ((ms.drop j).foldl addO o)) (Zm ((ms.drop j).foldl addO o)) := by
 intro q
 induction q with
 | zero =>
  intro k j o hq hk ho
  obtain ⟨k, rfl⟩ := Qjj k (by omega)
  rw [Yu]
  dsimp only
  rw [Qfv (by omega), cF, Qf9 (by omega)]
  rfl
 | succ q ih =>
  intro k j o hq hk ho
  obtain ⟨k, rfl⟩ := Qjj k (by omega)
  have hj : j < ms.length := by omega
  have hto := hm _ (Qfy hj)
  have hw := Bx (n := j) (by omega)
  have hlt : (j : Int) < (ms.length : Int) := by omega
  have hcl : (Zm o).length = o.length := by rw [Zm, Qfw]
  rw [Yu]
  dsimp only
  rw [Qf0 hlt, cT, Ze hj, bS, Qf2 hj, Qgx, hw]
  generalize ms[j] = m at *
  by_cases h0 : m.To ≥ 0
  ·obtain ⟨x, hx⟩ : ∃ x : Nat, m.To = (x : Int) := ⟨m.To.toNat, by omega⟩
   have hxn : x < n := by omega
   have hg : Xl (Ef n o) m.To = some (if x ∈ o then (o.idxOf x : Int) else -1) := by
    rw [hx, Ze (by rw [M2]; exact hxn), ← Q2 (d := -1) (by rw [M2]; exact hxn), S8 hxn]
   rw [Qf0 h0, cT, hg, bS]
   by_cases hmem : x ∈ o
   ·have ha : addO o m = o := by rw [addO, if_neg (by rw [hx, Qf1]; exact fun h => h.2 hmem)]
    rw [if_pos hmem, Qfv (by omega), cF, ha]
    exact ih k (j + 1) o (by omega) (by omega) (by omega)
   ·have ha : addO o m = o ++ [x] := by rw [addO, hx, Qf1, if_pos ⟨by omega, hmem⟩]
    rw [if_neg hmem, Qf0 (by omega), cT, Z3 (Zl.2 ⟨by simp only [maxLen, Qft]; omega, by simp only [Qft]; omega⟩), hcl, hx, Qf1, keepT_snoc hxn hmem, ha]
    have := ih k (j + 1) (o ++ [x]) (by omega) (by omega) (by rw [Qfu, Qft]; omega)
    rw [← this]
    simp [Zm]
  ·have ha : addO o m = o := by rw [addO, if_neg (fun h => h0 h.1)]
   rw [Qfv h0, cF, ha]
   exact ih k (j + 1) o (by omega) (by omega) (by omega)
theorem keep_l2 (K : Nat) (f : Zn) (many : Int) (cs : List X2) (S : List Qa) (r : List Nat) (hr : ∀ x ∈ r, x < S.length) (hrl : r.length ≤ 256) : ∀ (q k i : Nat) (X : List Qa), r.length - i = q → q < k → X.length = i → i ≤ r.length →
  X4 K k (r.length : Int) (i : Int) f many cs S X (Zm r) = some ⟨⟨⟨f, many⟩, cs, X ++ (r.drop i).map (stA S)⟩⟩ := by
 intro q
 induction q with
 | zero =>
  intro k i X hq hk hX hi
  obtain ⟨k, rfl⟩ := Qjj k (by omega)
  rw [X4]
  dsimp only
  rw [Qfv (by omega), cF, Qf9 (by omega), Qhu, Qgg]
 | succ q ih =>
  intro k i X hq hk hX hi
  obtain ⟨k, rfl⟩ := Qjj k (by omega)
  have hil : i < r.length := by omega
  have hlt : (i : Int) < (r.length : Int) := by omega
  have hx := hr _ (Qfy hil)
  have hg : Xl (Zm r) (i : Int) = some (r[i] : Int) := by
   rw [Ze (by rw [Zm, Qfw]; exact hil)]
   simp [Zm]
  rw [X4]
  dsimp only
  rw [Qf0 hlt, cT, hg, bS, Ze hx, bS, Z3 (Zl.2 ⟨by simp only [maxLen, Qft]; omega, by simp only [Qft]; omega⟩), Bx (n := i) (by omega), ih k (i + 1) _ (by omega) (by omega) (by rw [Qfu, Qft]; omega) (by omega), Qf2 hil, Qge, Ua hx, Qfx]
  rfl
theorem keep_l0 (K : Nat) (hK : 10000 ≤ K) {a : Qn} (h : RQ a) : ∀ (k' k i : Nat) (o : List Nat), k' ≤ k → o.Nodup → (∀ x ∈ o, x < a.States.length) → i ≤ o.length → a.States.length < k' + i → (bfs a.States k' i o).length ≤ 256 → (∀ x ∈ bfs a.States k' i o, x < a.States.length) →
  Y7 K k (i : Int) ⟨a⟩ (Ef a.States.length o) (Zm o) = some ⟨withS a ((bfs a.States k' i o).map fun q => Og (Ef a.States.length (bfs a.States k' i o)) (stA a.States q))⟩ := by
 intro k'
 induction k' with
 | zero =>
  intro k i o _ h1 h2 h3 h4
  have := C4 o (List.range a.States.length) h1 fun x hx => Qgo.2 (h2 x hx)
  rw [Qgi] at this
  omega
 | succ k' ih =>
  intro k i o hk h1 h2 h3 h4 h5 h6
  obtain ⟨k, rfl⟩ := Qjj k (by omega)
  have hn := h.n2
  have hol := C4 o (List.range a.States.length) h1 fun x hx => Qgo.2 (h2 x hx)
  rw [Qgi] at hol
  have hcl : (Zm o).length = o.length := by rw [Zm, Qfw]
  rw [Y7]
  rw [bfs] at h5 h6 ⊢
  dsimp only
  rw [hcl]
  by_cases hi : i < o.length
  ·rw [if_pos hi] at h5 h6 ⊢
   have hx := h2 _ (Qfy hi)
   have hg : Xl (Zm o) (i : Int) = some (o[i] : Int) := by
    rw [Ze (by rw [hcl]; exact hi)]
    simp [Zm]
   have hsm := h.small (Qfy hx)
   have hfl := hsm.flat
   have hmv : mvs a.States o[i] = (a.States[o[i]]).Next.flatten := by rw [mvs, Ua hx]
   have hto : ∀ m ∈ mvs a.States o[i], m.To < a.States.length := h.toOk _ hx
   rw [Q2 hi] at h5 h6 ⊢
   rw [Qf0 (by omega), cT, hg, bS, Ze hx, bS, moves_eq K _ (by have := hsm.next; omega) (by have := hsm.next; omega) (by omega), bS, ← hmv]
   have := keep_l1 K (Y7 K k) (i : Int) (mvs a.States o[i]) ⟨a⟩ a.States.length hto (by rw [hmv]; omega) (mvs a.States o[i]).length K 0 o rfl (by rw [hmv]; omega) (by omega)
   rw [Qgb, Qgl, Bx (n := i) (by omega)] at this
   rw [this]
   refine ih k (i + 1) _ (by omega) (Qfc _ _ h1) (fun x hx' => ?_) ?_ (by omega) h5 h6
   ·rcases (foldO_mem _ _ _).1 hx' with h' | ⟨m, hm, h0, rfl⟩
    ·exact h2 x h'
    ·have := hto m hm; omega
   ·obtain ⟨t, ht⟩ := foldO_pre (mvs a.States o[i]) o
    rw [ht, Qfu]; omega
  ·rw [if_neg hi] at h5 h6 ⊢
   rw [Qfv (by omega), cF, send_of (by omega) h (M2 _ _), bS]
   dsimp only [withS]
   have := keep_l2 K a.Split.Of a.Split.Many a.Counts (D2 (Ef a.States.length o) a.States) o (fun x hx => by rw [Wm]; exact h2 x hx) (by omega) o.length K 0 [] rfl (by omega) rfl (Qf7 _)
   rw [Qgb, Qgl, Qf8] at this
   rw [this]
   congr 4
   exact funext fun x => Sv _ _ _
theorem repeat_l1 (K : Nat) (n : Nat) (hn : n ≤ 256) : ∀ (q k i : Nat), n - i = q → q < k → 1 ≤ i → i ≤ n → Vx K k (i : Int) (List.replicate i (-1 : Int) ++ List.replicate (n - i) 0) = some (List.replicate n (-1)) := by
 intro q
 induction q using Nat.strongRecOn with
 | ind q ih =>
  intro k i hq hk h1 h2
  obtain ⟨k, rfl⟩ := Qjj k (by omega)
  have hl : (List.replicate i (-1 : Int) ++ List.replicate (n - i) 0).length = n := by simp; omega
  rw [Vx]
  dsimp only
  rw [hl, Qf1]
  by_cases hi : i < n
  ·have e : IntKind.i64.wrap ((i : Int) + ((min i (n - i) : Nat) : Int)) = ((i + min i (n - i) : Nat) : Int) := by rw [w64 (by omega) (by omega)]; omega
   rw [Qf0 (by omega), cT, Z3 ⟨by omega, by omega⟩, Z3 ⟨by omega, by omega⟩, e]
   have hih := ih (n - (i + min i (n - i))) (by omega) k (i + min i (n - i)) rfl (by omega) (by omega) (by omega)
   rw [← hih]
   congr 1
   have e1 : (List.replicate i (-1 : Int) ++ List.replicate (n - i) 0).take i = List.replicate i (-1) := by
    rw [Qhl (by simp), Qg8 (by simp)]
   have e2 : (List.replicate i (-1 : Int) ++ List.replicate (n - i) 0).take (min i (n - i)) = List.replicate (min i (n - i)) (-1) := by
    rw [Qhl (by simp; omega), List.take_replicate]
    congr 1; omega
   have e3 : (List.replicate i (-1 : Int) ++ List.replicate (n - i) 0).drop (i + min i (n - i)) = List.replicate (n - (i + min i (n - i))) 0 := by
    rw [List.drop_append, List.drop_of_length_le (by simp), Qf8, List.drop_replicate]
    congr 1; simp; omega
   rw [e1, e2, e3, List.replicate_append_replicate]
  ·have : n = i := by omega
   subst this
   rw [Qfv (by omega), cF]
   simp
theorem mul_ok : ∀ n : _root_.Fin 257, Qco 0 (IntKind.u64.wrap 1) (IntKind.u64.wrap ((n.val : Nat) : Int)) = some (0, ((n.val : Nat) : Int)) := by decide +kernel
theorem repeat_ok (K : Nat) (n : Nat) (h1 : 1 ≤ n) (hn : n ≤ 256) (hK : 1000 ≤ K) : W0 K [(-1 : Int)] (n : Int) = some (List.replicate n (-1)) := by
 have hm : Qco K (IntKind.u64.wrap (([(-1 : Int)].length : Nat) : Int)) (IntKind.u64.wrap (n : Int)) = some (0, (n : Int)) := mul_ok ⟨n, by omega⟩
 rw [W0, Qfv (by omega), cF, hm, bS]
 dsimp only
 rw [Qfv (by omega), cF, Qfv (by omega), cF, w64 (by omega) (by omega), Z3 (by omega), Z3 (Zl.2 ⟨by simp only [maxLen]; omega, by omega⟩), Z3 ⟨by simp, by simp; omega⟩, Qf1]
 have := repeat_l1 K n hn (n - 1) K 1 rfl (by omega) (by omega) h1
 rw [← this]
 congr 1
 simp
theorem keep_ok {K : Nat} (hK : 10000 ≤ K) {a : Qn} (h : RQ a) : Wx K ⟨a⟩ = some ⟨withS a (Qch a.States)⟩ := by
 have h0 := h.n1
 have hn := h.n2
 have ho := Ej h.toOk (by omega)
 have hol := Qe5 h.toOk (by omega)
 have := keep_l0 K hK h (a.States.length + 1) K 0 [0] (by omega) (Qin.2 ⟨Qit, Qiw⟩) (fun x hx => by rw [Qf3.1 hx]; omega) (Qf7 _) (by omega) (by rw [Jq] at hol; omega) ho.lt
 rw [Wx]
 dsimp only
 rw [repeat_ok K _ h0 hn (by omega), bS]
 have e : Xl (List.replicate a.States.length (-1 : Int)) 0 = some (-1) := by
  have := Ze (l := List.replicate a.States.length (-1 : Int)) (i := 0) (by rw [Qg0]; omega)
  rw [Qid] at this
  exact this
 have e2 : (List.replicate a.States.length (-1 : Int)).set (Int.toNat 0) 0 = Ef a.States.length [0] := by
  have e3 : List.replicate a.States.length (-1 : Int) = Ef a.States.length [] := by
   refine Qi9 (by rw [M2, Qg0]) fun i h1 h2 => ?_
   simp [Ef]
  rw [e3]
  exact keepT_snoc (o := []) (by omega) Qit
 rw [e, bS, e2]
 exact this
end Go.Rv
namespace Go.Rv
def itB (n : Int) : List Int := Mg (itoaS n)
def decD : List Int → Int → Int
 | [], v => v
 | c :: l, v => decD l (10 * v + (c - 48))
def decV : List Int → Int
 | [] => 0
 | c :: l => if c = 45 then -(decD l 0) else decD (c :: l) 0
def itOk (n : Int) : Bool := decV (itB n) == n && (itB n).all (fun c => c == 45 || (decide (48 ≤ c) && decide (c ≤ 57))) && decide (1 ≤ (itB n).length) && decide ((itB n).length ≤ 4)
theorem itOk_all : ∀ n : _root_.Fin 601, itOk ((n.val : Int) - 1) = true := by decide +kernel
structure Qbu (n : Int) : Prop where
 val : decV (itB n) = n
 dig : ∀ c ∈ itB n, c = 45 ∨ (48 ≤ c ∧ c ≤ 57)
 pos : 1 ≤ (itB n).length
 len : (itB n).length ≤ 4
theorem Ny {n : Int} (h0 : -1 ≤ n) (h1 : n < 600) : Qbu n := by
 have := itOk_all ⟨(n + 1).toNat, by omega⟩
 dsimp only at this
 rw [show (((n + 1).toNat : Nat) : Int) - 1 = n by omega, itOk] at this
 simp only [Qgv, Qhe, Qhc, Qgr, Qio] at this
 exact ⟨this.1.1.1, this.1.1.2, this.1.2, this.2⟩
def tok (n : Int) : List Int := itB n ++ [32]
def Qeq (l : List Nat) (m : Qd) : List Int := if m.To < 0 then tok (-1) else tok (l.getD m.To.toNat 0 : Int) ++ (m.Ops ++ tok (m.Ops.length : Int))
def Qb2 (l : List Nat) (s : Qa) : List Int := tok (s.R.length : Int) ++ ((s.R.map tok).flatten ++ ((s.Rule.map tok).flatten ++ (s.Next.flatten.map (Qeq l)).flatten))
theorem cut_eq {d : Int} : ∀ (A B u v : List Int), d ∉ A → d ∉ B → A ++ d :: u = B ++ d :: v → A = B ∧ u = v := by
 intro A
 induction A with
 | nil =>
  intro B u v _ hB h
  cases B with
  | nil => rw [Qf8, Qf8] at h; exact ⟨rfl, (List.cons.inj h).2⟩
  | cons b B => rw [Qf8, Qhv] at h; exact absurd (Qg1.2 (.inl (List.cons.inj h).1)) hB
 | cons a A ih =>
  intro B u v hA hB h
  cases B with
  | nil => rw [Qf8, Qhv] at h; exact absurd (Qg1.2 (.inl (List.cons.inj h).1.symm)) hA
  | cons b B =>
   rw [Qhv, Qhv] at h
   obtain ⟨h1, h2⟩ := List.cons.inj h
   obtain ⟨h3, h4⟩ := ih B u v (fun h => hA (Qf5 _ h)) (fun h => hB (Qf5 _ h)) h2
   exact ⟨by rw [h1, h3], h4⟩
theorem it_no {n : Int} (h : Qbu n) {d : Int} (hd : d = 32 ∨ d = 58) : d ∉ itB n := fun hm => by
 have := h.dig d hm
 omega
theorem it_inj {a b : Int} (ha : Qbu a) (hb : Qbu b) (h : itB a = itB b) : a = b := by
 rw [← ha.val, ← hb.val, h]
theorem Qar {a b : Int} (ha : Qbu a) (hb : Qbu b) {u v : List Int} (h : tok a ++ u = tok b ++ v) : a = b ∧ u = v := by
 rw [tok, tok, Qfx, Qfx] at h
 obtain ⟨h1, h2⟩ := cut_eq _ _ _ _ (it_no ha (.inl rfl)) (it_no hb (.inl rfl)) h
 exact ⟨it_inj ha hb h1, h2⟩
theorem toks_cut : ∀ (x y : List Int), x.length = y.length → (∀ n ∈ x, Qbu n) → (∀ n ∈ y, Qbu n) → ∀ (u v : List Int), (x.map tok).flatten ++ u = (y.map tok).flatten ++ v → x = y ∧ u = v := by
 intro x
 induction x with
 | nil =>
  intro y hl _ _ u v h
  cases y with
  | nil => exact ⟨rfl, h⟩
  | cons b y => simp at hl
 | cons a x ih =>
  intro y hl hx hy u v h
  cases y with
  | nil => simp at hl
  | cons b y =>
   simp only [Qge, Qgh, Qfx] at h
   obtain ⟨h1, h2⟩ := Qar (hx a Qga) (hy b Qga) h
   obtain ⟨h3, h4⟩ := ih y (by simpa using hl) (fun n hn => hx n (Qf5 _ hn)) (fun n hn => hy n (Qf5 _ hn)) u v h2
   exact ⟨by rw [h1, h3], h4⟩
theorem tok_head {n : Int} (h : Qbu n) (u : List Int) : ∃ c t, tok n ++ u = c :: t ∧ 45 ≤ c := by
 have hp := h.pos
 have hd := h.dig
 rw [tok]
 cases hq : itB n with
 | nil => rw [hq] at hp; simp at hp
 | cons c t =>
  rw [hq] at hd
  refine ⟨c, t ++ ([32] ++ u), by simp, ?_⟩
  have := hd c Qga
  omega
theorem ops_cut : ∀ (O P : List Int), (∀ c ∈ O, c ≤ 3) → (∀ c ∈ P, c ≤ 3) → ∀ (a b : Int), Qbu a → Qbu b → ∀ u v, O ++ (tok a ++ u) = P ++ (tok b ++ v) → O = P ∧ tok a ++ u = tok b ++ v := by
 intro O
 induction O with
 | nil =>
  intro P _ hP a b ha hb u v h
  cases P with
  | nil => exact ⟨rfl, h⟩
  | cons p P =>
   obtain ⟨c, t, e, hc⟩ := tok_head ha u
   rw [Qf8, e, Qhv] at h
   have h1 := hP p Qga
   have h2 := (List.cons.inj h).1
   omega
 | cons o O ih =>
  intro P hO hP a b ha hb u v h
  cases P with
  | nil =>
   obtain ⟨c, t, e, hc⟩ := tok_head hb v
   rw [Qf8, e, Qhv] at h
   have h1 := hO o Qga
   have h2 := (List.cons.inj h).1
   omega
  | cons p P =>
   rw [Qhv, Qhv] at h
   obtain ⟨h1, h2⟩ := List.cons.inj h
   obtain ⟨h3, h4⟩ := ih P (fun c hc => hO c (Qf5 _ hc)) (fun c hc => hP c (Qf5 _ hc)) a b ha hb u v h2
   exact ⟨by rw [h1, h3], h4⟩
def mvOkL (l : List Nat) (m : Qd) : Prop := (∀ c ∈ m.Ops, 1 ≤ c ∧ c ≤ 3) ∧ m.Ops.length ≤ 3 ∧ l.getD m.To.toNat 0 < 500
theorem mtok_cut {l : List Nat} {m n : Qd} (hm : mvOkL l m) (hn : mvOkL l n) {u v : List Int} (h : Qeq l m ++ u = Qeq l n ++ v) : keyM l m = keyM l n ∧ u = v := by
 obtain ⟨m1, m2, m3⟩ := hm
 obtain ⟨n1, n2, n3⟩ := hn
 have i0 : Qbu (-1) := Ny (by omega) (by omega)
 have i1 : Qbu (l.getD m.To.toNat 0 : Int) := Ny (by omega) (by omega)
 have i2 : Qbu (l.getD n.To.toNat 0 : Int) := Ny (by omega) (by omega)
 rw [Qeq, Qeq] at h
 rw [keyM, keyM]
 by_cases h1 : m.To < 0 <;> by_cases h2 : n.To < 0
 ·rw [if_pos h1, if_pos h2] at h ⊢
  exact ⟨rfl, (Qar i0 i0 h).2⟩
 ·rw [if_pos h1, if_neg h2, Qfx] at h
  have := (Qar i0 i2 h).1
  omega
 ·rw [if_neg h1, if_pos h2, Qfx] at h
  have := (Qar i1 i0 h).1
  omega
 ·rw [if_neg h1, if_neg h2] at h ⊢
  simp only [Qfx] at h
  obtain ⟨g1, g2⟩ := Qar i1 i2 h
  have j1 : Qbu (m.Ops.length : Int) := Ny (by omega) (by omega)
  have j2 : Qbu (n.Ops.length : Int) := Ny (by omega) (by omega)
  obtain ⟨g3, g4⟩ := ops_cut _ _ (fun c hc => (m1 c hc).2) (fun c hc => (n1 c hc).2) _ _ j1 j2 _ _ g2
  exact ⟨by rw [g3, show l.getD m.To.toNat 0 = l.getD n.To.toNat 0 by omega], (Qar j1 j2 g4).2⟩
theorem mtok_of {l : List Nat} {m n : Qd} (h : keyM l m = keyM l n) : Qeq l m = Qeq l n := by
 rw [keyM, keyM] at h
 rw [Qeq, Qeq]
 by_cases h1 : m.To < 0 <;> by_cases h2 : n.To < 0
 ·rw [if_pos h1, if_pos h2]
 ·rw [if_pos h1, if_neg h2] at h; cases h
 ·rw [if_neg h1, if_pos h2] at h; cases h
 ·rw [if_neg h1, if_neg h2] at h ⊢
  simp only [Qgk, Qf4] at h
  rw [h.1, h.2]
theorem mtoks_cut {l : List Nat} : ∀ (x y : List Qd), x.length = y.length → (∀ m ∈ x, mvOkL l m) → (∀ m ∈ y, mvOkL l m) → (x.map (Qeq l)).flatten = (y.map (Qeq l)).flatten → x.map (keyM l) = y.map (keyM l) := by
 intro x
 induction x with
 | nil =>
  intro y hl _ _ h
  cases y with
  | nil => rfl
  | cons b y => simp at hl
 | cons a x ih =>
  intro y hl hx hy h
  cases y with
  | nil => simp at hl
  | cons b y =>
   simp only [Qge, Qgh] at h ⊢
   obtain ⟨h1, h2⟩ := mtok_cut (hx a Qga) (hy b Qga) h
   rw [h1, ih y (by simpa using hl) (fun n hn => hx n (Qf5 _ hn)) (fun n hn => hy n (Qf5 _ hn)) h2]
theorem mtoks_of {l : List Nat} {x y : List Qd} (h : x.map (keyM l) = y.map (keyM l)) : x.map (Qeq l) = y.map (Qeq l) := by
 have hl : x.length = y.length := by have := congrArg List.length h; simpa using this
 refine Qi9 (by simpa using hl) fun k k1 k2 => ?_
 rw [Qgt, Qgt]
 refine mtok_of ?_
 have := congrArg (fun q => q[k]?) h
 rw [Qfw] at k1 k2
 simpa [k1, k2] using this
def keyL (S : List Qa) (l : List Nat) (i : Nat) : List Int := if i = 0 then [102, 105, 114, 115, 116] else itB (l.getD i 0 : Int) ++ 58 :: Qb2 l (stA S i)
structure Qdm (a : Qn) (l : List Nat) : Prop where
 len : l.length = a.States.length
 lt : ∀ x ∈ l, x < 500
theorem Qdm.get {a : Qn} {l : List Nat} (h : Qdm a l) (i : Nat) : l.getD i 0 < 500 := by
 by_cases hi : i < l.length
 ·rw [Q2 hi]; exact h.lt _ (Qfy hi)
 ·rw [getD_far (by omega)]; omega
theorem RQ.mvL {a : Qn} (h : RQ a) {l : List Nat} (hl : Qdm a l) {i : Nat} (hi : i < a.States.length) : ∀ m ∈ Go.Rv.mvs a.States i, mvOkL l m := fun m hm => by
 have hs := h.small (Qfy hi)
 have hq := h.mvs hi hm
 rw [Go.Rv.mvs, Ua hi] at hm
 obtain ⟨r, hr, hm'⟩ := Qiu.1 hm
 refine ⟨fun c hc => ?_, hs.ops r hr m hm', hl.get _⟩
 rcases hq with ⟨_, h2⟩ | ⟨_, _, _, h4⟩
 ·rw [h2] at hc; cases hc
 ·obtain ⟨j, hj, rfl⟩ := Qgp hc
  exact ⟨(h4 j hj).1, (h4 j hj).2.1⟩
theorem risesF_mem {below : Int} : ∀ (l : List Int) (last : Int), I0 below last l = true → ∀ x ∈ l, last < x ∧ x < below := by
 intro l
 induction l with
 | nil => intro last _ x hx; cases hx
 | cons n l ih =>
  intro last h x hx
  simp only [I0, Qgv, Bool.not_eq_true', decide_eq_false_iff_not] at h
  rcases Qg1.1 hx with rfl | hx
  ·omega
  ·have := ih n h.2.2 x hx; omega
theorem StQ.rIt {n : Nat} {many : Int} {S : List Qa} {s : Qa} (h : StQ n many S s) (hn : n ≤ 512) : ∀ x ∈ s.R, Qbu x := fun x hx => by
 have := risesF_mem s.R (-1) h.r x hx
 exact Ny (by omega) (by omega)
theorem StQ.ruleIt {n : Nat} {many : Int} {S : List Qa} {s : Qa} (h : StQ n many S s) : ∀ x ∈ s.Rule, Qbu x := fun x hx => by
 have := h.rule x hx
 exact Ny (by omega) (by omega)
theorem sum_const : ∀ (l : List Nat) (c : Nat), (∀ x ∈ l, x = c) → l.sum = l.length * c := by
 intro l
 induction l with
 | nil => intro c _; simp
 | cons x l ih =>
  intro c h
  rw [List.sum_cons, ih c fun y hy => h y (Qf5 _ hy), h x Qga, Qgc, Qh9]
  omega
theorem StQ.mvsLen {n : Nat} {many : Int} {S : List Qa} {s t : Qa} (hs : StQ n many S s) (ht : StQ n many S t) (hr : s.R.length = t.R.length) : s.Rule.length = t.Rule.length ∧ s.Next.length = t.Next.length ∧ s.Next.flatten.length = t.Next.flatten.length := by
 have e1 := hs.rl
 have e2 := ht.rl
 have e3 := hs.nl
 have e4 := ht.nl
 rw [hr] at e1 e3
 have f : ∀ u : Qa, StQ n many S u → u.Next.flatten.length = u.Next.length * many.toNat := fun u hu => by
  have := sum_const (u.Next.map List.length) many.toNat fun x hx => by
   obtain ⟨r, hr, rfl⟩ := Qgf.1 hx
   have := hu.row r hr
   omega
  rw [List.length_flatten, this, Qfw]
 have e5 : s.Next.length = t.Next.length := by omega
 exact ⟨by omega, e5, by rw [f s hs, f t ht, e5]⟩
theorem sign_cut {a : Qn} (h : RQ a) {l : List Nat} (hl : Qdm a l) {i j : Nat} (hi : i < a.States.length) (hj : j < a.States.length) (he : Qb2 l (stA a.States i) = Qb2 l (stA a.States j)) : (stA a.States i).R = (stA a.States j).R ∧ (stA a.States i).Rule = (stA a.States j).Rule ∧ (mvs a.States i).map (keyM l) = (mvs a.States j).map (keyM l) := by
 have gi := h.st _ (Qfy hi)
 have gj := h.st _ (Qfy hj)
 have si := h.small (Qfy hi)
 have sj := h.small (Qfy hj)
 have mi := h.mvL hl hi
 have mj := h.mvL hl hj
 rw [mvs] at mi mj
 rw [mvs, mvs]
 rw [← Ua hi] at gi si
 rw [← Ua hj] at gj sj
 have ri := si.r
 have rj := sj.r
 have hcl := h.cl
 rw [Qb2, Qb2] at he
 obtain ⟨h1, h2⟩ := Qar (Ny (by omega) (by omega)) (Ny (by omega) (by omega)) he
 have hr : (stA a.States i).R.length = (stA a.States j).R.length := by omega
 obtain ⟨l1, l2, l3⟩ := gi.mvsLen gj hr
 obtain ⟨h3, h4⟩ := toks_cut _ _ hr (gi.rIt hcl) (gj.rIt hcl) _ _ h2
 obtain ⟨h5, h6⟩ := toks_cut _ _ l1 gi.ruleIt gj.ruleIt _ _ h4
 exact ⟨h3, h5, mtoks_cut _ _ l3 mi mj h6⟩
theorem keyL_eq {a : Qn} (h : RQ a) {l : List Nat} (hl : Qdm a l) {i j : Nat} (hi : i < a.States.length) (hj : j < a.States.length) : keyL a.States l i = keyL a.States l j ↔ keyS a.States l i = keyS a.States l j := by
 have oi : Qbu (l.getD i 0 : Int) := Ny (by omega) (by have := hl.get i; omega)
 have oj : Qbu (l.getD j 0 : Int) := Ny (by omega) (by have := hl.get j; omega)
 have hne : ∀ {n : Int} (u : List Int), Qbu n → ([102, 105, 114, 115, 116] : List Int) ≠ itB n ++ 58 :: u := fun {n} u hn he => by
  have hp := hn.pos
  have hd := hn.dig
  cases hq : itB n with
  | nil => rw [hq] at hp; simp at hp
  | cons c t =>
   rw [hq] at hd he
   have h1 := hd c Qga
   have h2 := (List.cons.inj he).1
   omega
 rw [keyL, keyL, keyS, keyS]
 by_cases h1 : i = 0 <;> by_cases h2 : j = 0
 ·rw [if_pos h1, if_pos h2, if_pos h1, if_pos h2]; simp
 ·rw [if_pos h1, if_neg h2, if_pos h1, if_neg h2]
  exact ⟨fun he => absurd he (hne _ oj), fun he => by cases he⟩
 ·rw [if_neg h1, if_pos h2, if_neg h1, if_pos h2]
  exact ⟨fun he => absurd he.symm (hne _ oi), fun he => by cases he⟩
 ·rw [if_neg h1, if_neg h2, if_neg h1, if_neg h2]
  simp only [Qgk, Qf4]
  constructor
  ·intro he
   obtain ⟨g1, g2⟩ := cut_eq _ _ _ _ (it_no oi (.inr rfl)) (it_no oj (.inr rfl)) he
   have g3 := it_inj oi oj g1
   exact ⟨by omega, sign_cut h hl hi hj g2⟩
  ·rintro ⟨g1, g2, g3, g4⟩
   have g5 := mtoks_of g4
   rw [mvs, mvs] at g5
   rw [g1, Qb2, Qb2, g2, g3, g5]
end Go.Rv
namespace Go.Rv
theorem ba_beq (a b : ByteArray) : (a == b) = decide (a = b) := by
 cases a with | mk a => cases b with | mk b =>
 show (a == b) = _
 rw [Qh8, Qhc, Qhe]
 constructor
 ·rintro rfl; rfl
 ·intro h; cases h; rfl
instance : LawfulBEq ByteArray where
 eq_of_beq {a b} h := by rw [ba_beq] at h; exact of_decide_eq_true h
 rfl {a} := by rw [ba_beq]; exact Qf0 rfl
theorem Qdg (a b : ByteArray) : Mg (a ++ b) = Mg a ++ Mg b := by
 simp only [Mg, ByteArray.data_append, Qhz, Qg5]
theorem bytesI_of {xs : List Int} (h : W8 xs = true) : Mg (ofBytes xs) = xs := by
 obtain ⟨l, rfl⟩ := okBytes_of h
 rw [Qds]
 rfl
theorem bytesI_inj {a b : ByteArray} (h : Mg a = Mg b) : a = b := by
 have h1 : a.data.toList = b.data.toList := (List.map_inj_right (fun x y (e : ((x.toNat : Nat) : Int) = (y.toNat : Nat)) => UInt8.toNat_inj.1 (by omega))).1 h
 cases a with | mk a => cases b with | mk b =>
 have h2 : a = b := Array.ext' h1
 rw [h2]
theorem Qdr {a b : List Int} (ha : W8 a = true) (hb : W8 b = true) : W8 (a ++ b) = true := by
 rw [W8, List.all_append, Qgv]
 exact ⟨ha, hb⟩
theorem ok_of {a : List Int} (h : ∀ c ∈ a, 0 ≤ c ∧ c < 256) : W8 a = true := by
 rw [W8, Qgr]
 intro c hc
 obtain ⟨h1, h2⟩ := h c hc
 rw [Qf0 h1, Qf0 h2]
 rfl
theorem Qez {n : Int} (h : Qbu n) : W8 (tok n) = true := by
 refine ok_of fun c hc => ?_
 rcases Qfz.1 hc with hc | hc
 ·have := h.dig c hc; omega
 ·rw [Qf3.1 hc]; omega
theorem O8 {n : Int} (h : Qbu n) : (tok n).length ≤ 5 := by
 have := h.len
 rw [tok, Qfu, Qft]; omega
theorem it_size {n : Int} (h : Qbu n) : (itoaS n).size ≤ 4 := by
 have := h.len
 rw [itB, Qdf] at this
 exact this
theorem put1 {K : Nat} {n : Int} (h0 : -1 ≤ n) (h1 : n < 600) {acc : List Int} (hl : acc.length ≤ 1000000) : Uk K n acc = some (acc ++ tok n) := by
 have hs := it_size (Ny h0 h1)
 have e : Mg (⟨#[32]⟩ : ByteArray) = [32] := rfl
 have hsz : (itoaS n ++ (⟨#[32]⟩ : ByteArray)).size ≤ 5 := by rw [ByteArray.size_append]; show (itoaS n).size + 1 ≤ 5; omega
 rw [Uk, strconv_Itoa, if_pos (by omega), bS, Z3 (by show (itoaS n).size + 1 ≤ 9223372036854775807; omega), X9, Yp, bS, Z3 (Zl.2 ⟨by simp only [maxLen]; omega, by omega⟩), bS]
 dsimp only
 rw [Qdg, e]
 rfl
theorem put0 {K : Nat} {n : Int} (h0 : -1 ≤ n) (h1 : n < 600) : O6 K n [] = some (tok n) := put1 (acc := []) h0 h1 (by simp)
theorem mtok_ok {l : List Nat} {m : Qd} (h : mvOkL l m) : W8 (Qeq l m) = true ∧ (Qeq l m).length ≤ 13 := by
 obtain ⟨h1, h2, h3⟩ := h
 have i0 : Qbu (-1) := Ny (by omega) (by omega)
 have i1 : Qbu (l.getD m.To.toNat 0 : Int) := Ny (by omega) (by omega)
 have j1 : Qbu (m.Ops.length : Int) := Ny (by omega) (by omega)
 rw [Qeq]
 split
 ·exact ⟨Qez i0, by have := O8 i0; omega⟩
 ·refine ⟨Qdr (Qez i1) (Qdr (ok_of fun c hc => by have := h1 c hc; omega) (Qez j1)), ?_⟩
  have := O8 i1
  have := O8 j1
  rw [Qfu, Qfu]; omega
theorem M3 {l : List Nat} {i : Nat} (h : i < l.length) : Xl (Zm l) (i : Int) = some ((l.getD i 0 : Nat) : Int) := by
 rw [Ze (by rw [Zm, Qfw]; exact h), Q2 h]
 simp [Zm]
theorem sign_l2 (K : Nat) (l : List Nat) (ms : List Qd) (hl : ms.length ≤ 7000) (hm : ∀ m ∈ ms, mvOkL l m ∧ m.To < l.length) : ∀ (q k j : Nat) (acc : List Int), ms.length - j = q → q < k → 0 < acc.length → acc.length ≤ 1000 + 13 * j → W8 acc = true →
  Hj K k ms (ms.length : Int) (j : Int) (Zm l) acc = some (ofBytes (acc ++ ((ms.drop j).map (Qeq l)).flatten)) := by
 intro q
 induction q with
 | zero =>
  intro k j acc hq hk h0 h1 h2
  obtain ⟨k, rfl⟩ := Qjj k (by omega)
  rw [Hj]
  dsimp only
  rw [Qfv (by omega), cF, Qf9 (by omega), Z3 h0, Z3 h2, Qhu, List.flatten_nil, Qgg]
 | succ q ih =>
  intro k j acc hq hk h0 h1 h2
  obtain ⟨k, rfl⟩ := Qjj k (by omega)
  have hj : j < ms.length := by omega
  obtain ⟨hmv, hto⟩ := hm _ (Qfy hj)
  have hw := Bx (n := j) (by omega)
  have hlt : (j : Int) < (ms.length : Int) := by omega
  obtain ⟨o1, o2⟩ := mtok_ok hmv
  have hih := ih k (j + 1) (acc ++ Qeq l ms[j]) (by omega) (by omega) (by rw [Qfu]; omega) (by rw [Qfu]; omega) (Qdr h2 o1)
  rw [Hj]
  dsimp only
  rw [Qf0 hlt, cT, Ze hj, bS, Qf2 hj, Qge, Qgh, ← Qfx, ← hih, hw]
  generalize ms[j] = m at *
  obtain ⟨g1, g2, g3⟩ := hmv
  by_cases h3 : m.To < 0
  ·rw [Qf0 h3, cT, put1 (by omega) (by omega) (by omega), bS, Qeq, if_pos h3]
  ·obtain ⟨x, hx⟩ : ∃ x : Nat, m.To = (x : Int) := ⟨m.To.toNat, by omega⟩
   have hl1 := O8 (Ny (n := (l.getD x 0 : Int)) (by omega) (by rw [hx, Qf1] at g3; omega))
   have hx2 : l.getD x 0 < 500 := by rw [hx, Qf1] at g3; exact g3
   rw [Qfv h3, cF, Qeq, if_neg h3, hx, Qf1, M3 (by omega), bS, put1 (by omega) (by omega) (by omega), bS, J2, Yp, bS, Z3 (Zl.2 ⟨by simp only [maxLen, Qfu]; omega, by simp only [Qfu]; omega⟩), bS]
   dsimp only
   rw [put1 (by omega) (by omega) (by simp only [Qfu]; omega), bS]
   simp only [Qfx]
theorem sign_l1 (K : Nat) (l : List Nat) (s : Qa) (hs : Tf s) (hK : 10000 ≤ K) (hr : ∀ x ∈ s.Rule, -1 ≤ x ∧ x < 600) (hm : ∀ m ∈ s.Next.flatten, mvOkL l m ∧ m.To < l.length) : ∀ (q k j : Nat) (acc : List Int), s.Rule.length - j = q → q < k → 0 < acc.length → acc.length ≤ 100 + 5 * j → j ≤ s.Rule.length → W8 acc = true →
  G6 K k s (s.Rule.length : Int) (j : Int) (Zm l) acc = some (ofBytes (acc ++ (((s.Rule.drop j).map tok).flatten ++ (s.Next.flatten.map (Qeq l)).flatten))) := by
 have hn := hs.next
 have hf := hs.flat
 have hrl := hs.rule
 intro q
 induction q with
 | zero =>
  intro k j acc hq hk h0 h1 hj h2
  obtain ⟨k, rfl⟩ := Qjj k (by omega)
  rw [G6]
  dsimp only
  have := sign_l2 K l s.Next.flatten (by omega) hm s.Next.flatten.length K 0 acc rfl (by omega) h0 (by omega) h2
  rw [Qgb, Qgl] at this
  rw [Qfv (by omega), cF, Qf9 (by omega), moves_eq K s (by omega) (by omega) (by omega), bS, this, Qhu, List.flatten_nil, Qf8]
 | succ q ih =>
  intro k j acc hq hk h0 h1 hjl h2
  obtain ⟨k, rfl⟩ := Qjj k (by omega)
  have hj : j < s.Rule.length := by omega
  obtain ⟨g1, g2⟩ := hr _ (Qfy hj)
  have hlt : (j : Int) < (s.Rule.length : Int) := by omega
  have hit := Ny g1 g2
  have := O8 hit
  rw [G6]
  dsimp only
  rw [Qf0 hlt, cT, Ze hj, bS, put1 g1 g2 (by omega), bS, Bx (n := j) (by omega), ih k (j + 1) _ (by omega) (by omega) (by rw [Qfu]; omega) (by rw [Qfu]; omega) (by omega) (Qdr h2 (Qez hit)), Qf2 hj, Qge, Qgh]
  simp only [Qfx]
theorem sign_l0 (K : Nat) (l : List Nat) (s : Qa) (hs : Tf s) (hK : 10000 ≤ K) (hR : ∀ x ∈ s.R, -1 ≤ x ∧ x < 600) (hr : ∀ x ∈ s.Rule, -1 ≤ x ∧ x < 600) (hm : ∀ m ∈ s.Next.flatten, mvOkL l m ∧ m.To < l.length) : ∀ (q k j : Nat) (acc : List Int), s.R.length - j = q → q < k → 0 < acc.length → acc.length ≤ 5 + 5 * j → j ≤ s.R.length → W8 acc = true →
  G7 K k s (s.R.length : Int) (j : Int) (Zm l) acc = some (ofBytes (acc ++ (((s.R.drop j).map tok).flatten ++ ((s.Rule.map tok).flatten ++ (s.Next.flatten.map (Qeq l)).flatten)))) := by
 have hn := hs.r
 have hrl := hs.rule
 intro q
 induction q with
 | zero =>
  intro k j acc hq hk h0 h1 hj h2
  obtain ⟨k, rfl⟩ := Qjj k (by omega)
  rw [G7]
  dsimp only
  have := sign_l1 K l s hs hK hr hm s.Rule.length K 0 acc rfl (by omega) h0 (by omega) (by omega) h2
  rw [Qgb, Qgl] at this
  rw [Qfv (by omega), cF, Qf9 (by omega), this, Qhu, List.flatten_nil, Qf8]
 | succ q ih =>
  intro k j acc hq hk h0 h1 hjl h2
  obtain ⟨k, rfl⟩ := Qjj k (by omega)
  have hj : j < s.R.length := by omega
  obtain ⟨g1, g2⟩ := hR _ (Qfy hj)
  have hlt : (j : Int) < (s.R.length : Int) := by omega
  have hit := Ny g1 g2
  have := O8 hit
  rw [G7]
  dsimp only
  rw [Qf0 hlt, cT, Ze hj, bS, put1 g1 g2 (by omega), bS, Bx (n := j) (by omega), ih k (j + 1) _ (by omega) (by omega) (by rw [Qfu]; omega) (by rw [Qfu]; omega) (by omega) (Qdr h2 (Qez hit)), Qf2 hj, Qge, Qgh]
  simp only [Qfx]
theorem sign_ok {K : Nat} (hK : 10000 ≤ K) {a : Qn} (h : RQ a) {l : List Nat} (hl : Qdm a l) {i : Nat} (hi : i < a.States.length) : Si K a.States[i] (Zm l) = some (ofBytes (Qb2 l (stA a.States i))) := by
 have hs := h.small (Qfy hi)
 have hq := h.st _ (Qfy hi)
 have hm := h.mvL hl hi
 have hto := h.toOk i hi
 have hr := hs.r
 have hcl := h.cl
 rw [mvs, Ua hi] at hm
 rw [mvs, Ua hi] at hto
 have i0 : Qbu (a.States[i].R.length : Int) := Ny (by omega) (by omega)
 have := sign_l0 K l a.States[i] hs hK (fun x hx => by have := risesF_mem _ (-1) hq.r x hx; omega) (fun x hx => by have := hq.rule x hx; omega) (fun m hm' => ⟨hm m hm', by rw [hl.len]; exact hto m hm'⟩) a.States[i].R.length K 0 (tok (a.States[i].R.length : Int)) rfl (by omega) (by rw [tok, Qfu, Qft]; omega) (O8 i0) (Qf7 _) (Qez i0)
 rw [Qgb, Qgl] at this
 rw [Si, put0 (by omega) (by omega), bS, this, Qb2, Ua hi]
def Qcg (U : List ByteArray) : List (ByteArray × Int) := (U.zipIdx).map fun p => (p.1, (p.2 : Int))
theorem Qe8 (U : List ByteArray) (k : ByteArray) : Qcg (U ++ [k]) = Qcg U ++ [(k, (U.length : Int))] := by
 simp [Qcg, List.zipIdx_append]
theorem knownM_len (U : List ByteArray) : (Qcg U).length = U.length := by simp [Qcg]
theorem lookup_app {α β : Type} [BEq α] [LawfulBEq α] (x : α) : ∀ (A B : List (α × β)), (A ++ B).lookup x = (A.lookup x).or (B.lookup x) := by
 intro A
 induction A with
 | nil => intro B; rfl
 | cons p A ih =>
  intro B
  rw [Qhv, Qhb, Qhb]
  cases x == p.1 with
  | true => rfl
  | false => exact ih B
def posK {κ : Type} [DecidableEq κ] (U : List κ) (x : κ) : Nat := U.idxOf x
theorem posK_in {κ : Type} [DecidableEq κ] {V W : List κ} {x : κ} (h : x ∈ V) : posK (V ++ W) x = posK V x := by rw [posK, posK, Qi4, if_pos h]
theorem posK_new {κ : Type} [DecidableEq κ] {V : List κ} {x : κ} (h : x ∉ V) : posK (V ++ [x]) x = V.length := by rw [posK, Qi4, if_neg h]; simp
theorem posK_lt {κ : Type} [DecidableEq κ] {U : List κ} {x : κ} (h : x ∈ U) : posK U x < U.length := Qg9.2 h
theorem dealF_cons {κ : Type} [DecidableEq κ] (U : List κ) (k : κ) (l : List κ) : Nz U (k :: l) = posK (Qcs U k) k :: Nz (Qcs U k) l := rfl
theorem look_rev (x : ByteArray) : ∀ (q : Nat) (U : List ByteArray), U.length = q → (Qcg U).lookup x = if x ∈ U then some ((posK U x : Nat) : Int) else none := by
 intro q
 induction q with
 | zero => intro U hU; rw [Qhr.1 hU]; rfl
 | succ q ih =>
  intro U hU
  rcases List.eq_nil_or_concat U with rfl | ⟨V, k, rfl⟩
  ·simp at hU
  ·rw [List.concat_eq_append] at hU ⊢
   rw [Qe8, lookup_app, ih V (by simpa using hU)]
   by_cases hx : x ∈ V
   ·rw [if_pos hx, if_pos (Qfz.2 (.inl hx)), posK_in hx]
    rfl
   ·rw [if_neg hx, Option.none_or, Qhb]
    by_cases hk : x = k
    ·subst hk
     rw [if_pos (Qfz.2 (.inr (Qf3.2 rfl))), Qg3, posK_new hx]
    ·rw [if_neg (fun hc => by
      rcases Qfz.1 hc with hc | hc
      ·exact hx hc
      ·exact hk (Qf3.1 hc)), Qgd.2 hk]
     rfl
theorem look (x : ByteArray) (U : List ByteArray) : (Qcg U).lookup x = if x ∈ U then some ((posK U x : Nat) : Int) else none := look_rev x U.length U rfl
def Qer (S : List Qa) (l : List Nat) (i : Nat) : ByteArray := if i = 0 then ⟨#[102, 105, 114, 115, 116]⟩ else (itoaS (l.getD i 0 : Int) ++ (⟨#[58]⟩ : ByteArray)) ++ ofBytes (Qb2 l (stA S i))
def Dx (S : List Qa) (l : List Nat) : List ByteArray := (List.range S.length).map (Qer S l)
theorem sign_bytes {a : Qn} (h : RQ a) {l : List Nat} (hl : Qdm a l) {i : Nat} (hi : i < a.States.length) : W8 (Qb2 l (stA a.States i)) = true ∧ (Qb2 l (stA a.States i)).length ≤ 100000 := by
 have hs := h.small (Qfy hi)
 have hq := h.st _ (Qfy hi)
 have hm := h.mvL hl hi
 rw [mvs] at hm
 rw [← Ua hi] at hs hq
 have hr := hs.r
 have hrl := hs.rule
 have hcl := h.cl
 have hfl := hs.flat
 have i0 : Qbu ((stA a.States i).R.length : Int) := Ny (by omega) (by omega)
 have f : ∀ (xs : List Int), (∀ x ∈ xs, Qbu x) → W8 (xs.map tok).flatten = true ∧ (xs.map tok).flatten.length ≤ xs.length * 5 := fun xs hx => by
  refine ⟨ok_of fun c hc => ?_, ?_⟩
  ·obtain ⟨r, hr, hc⟩ := Qiu.1 hc
   obtain ⟨x, hx', rfl⟩ := Qgf.1 hr
   rcases Qfz.1 hc with hc | hc
   ·have := (hx x hx').dig c hc; omega
   ·rw [Qf3.1 hc]; omega
  ·have := rows_len (xs.map tok) (c := 5) fun r hr => by
    obtain ⟨x, hx', rfl⟩ := Qgf.1 hr
    exact O8 (hx x hx')
   rw [Qfw] at this
   exact this
 obtain ⟨a1, a2⟩ := f _ (hq.rIt hcl)
 obtain ⟨b1, b2⟩ := f _ hq.ruleIt
 have c1 : W8 ((stA a.States i).Next.flatten.map (Qeq l)).flatten = true := by
  rw [W8, Qgr]
  intro c hc
  obtain ⟨r, hr, hc⟩ := Qiu.1 hc
  obtain ⟨m, hm', rfl⟩ := Qgf.1 hr
  exact Qgr.1 (mtok_ok (hm m hm')).1 c hc
 have c2 := rows_len ((stA a.States i).Next.flatten.map (Qeq l)) (c := 13) fun r hr => by
  obtain ⟨m, hm', rfl⟩ := Qgf.1 hr
  exact (mtok_ok (hm m hm')).2
 rw [Qfw] at c2
 have := O8 i0
 rw [Qb2]
 refine ⟨Qdr (Qez i0) (Qdr a1 (Qdr b1 c1)), ?_⟩
 simp only [Qfu]
 omega
theorem keyB_bytes {a : Qn} (h : RQ a) {l : List Nat} (hl : Qdm a l) {i : Nat} (hi : i < a.States.length) : Mg (Qer a.States l i) = keyL a.States l i := by
 rw [Qer, keyL]
 split
 ·rfl
 ·rw [Qdg, Qdg, bytesI_of (sign_bytes h hl hi).1, Qfx]
  rfl
theorem keyB_eq {a : Qn} (h : RQ a) {l : List Nat} (hl : Qdm a l) {i j : Nat} (hi : i < a.States.length) (hj : j < a.States.length) : Qer a.States l i = Qer a.States l j ↔ keyS a.States l i = keyS a.States l j := by
 rw [← keyL_eq h hl hi hj, ← keyB_bytes h hl hi, ← keyB_bytes h hl hj]
 exact ⟨fun e => by rw [e], bytesI_inj⟩
theorem deal_zip {κ μ : Type} [DecidableEq κ] [DecidableEq μ] (P : κ → μ → Prop) (hP : ∀ a b x y, P a x → P b y → (a = b ↔ x = y)) : ∀ (zs : List (κ × μ)) (A : List (κ × μ)), (∀ z ∈ zs, P z.1 z.2) → (∀ z ∈ A, P z.1 z.2) →
  Nz (A.map (·.1)) (zs.map (·.1)) = Nz (A.map (·.2)) (zs.map (·.2)) ∧ (Wv (A.map (·.1)) (zs.map (·.1))).length = (Wv (A.map (·.2)) (zs.map (·.2))).length := by
 intro zs
 induction zs with
 | nil => intro A _ _; exact ⟨rfl, by simp [Wv]⟩
 | cons z zs ih =>
  intro A hz hA
  have hpz := hz z Qga
  have hmem : z.1 ∈ A.map (·.1) ↔ z.2 ∈ A.map (·.2) := by
   constructor
   ·intro h
    obtain ⟨y, hy, e⟩ := Qgf.1 h
    exact Qgf.2 ⟨y, hy, (hP _ _ _ _ (hA y hy) hpz).1 e⟩
   ·intro h
    obtain ⟨y, hy, e⟩ := Qgf.1 h
    exact Qgf.2 ⟨y, hy, (hP _ _ _ _ (hA y hy) hpz).2 e⟩
  have hidx : ∀ B : List (κ × μ), (∀ z ∈ B, P z.1 z.2) → (B.map (·.1)).idxOf z.1 = (B.map (·.2)).idxOf z.2 := by
   intro B
   induction B with
   | nil => intro _; rfl
   | cons y B ihB =>
    intro hB
    have hy := hP _ _ _ _ (hB y Qga) hpz
    rw [Qge, Qge, List.idxOf_cons, List.idxOf_cons, ihB fun w hw => hB w (Qf5 _ hw)]
    by_cases he : y.1 = z.1
    ·rw [Qhe.2 he, Qhe.2 (hy.1 he)]
    ·rw [Qgd.2 he, Qgd.2 fun e => he (hy.2 e)]
  have hadd : ∃ B : List (κ × μ), Qcs (A.map (·.1)) z.1 = B.map (·.1) ∧ Qcs (A.map (·.2)) z.2 = B.map (·.2) ∧ ∀ z ∈ B, P z.1 z.2 := by
   rw [Qcs, Qcs]
   by_cases h : z.1 ∈ A.map (·.1)
   ·rw [if_pos h, if_pos (hmem.1 h)]
    exact ⟨A, rfl, rfl, hA⟩
   ·rw [if_neg h, if_neg (fun e => h (hmem.2 e))]
    refine ⟨A ++ [z], by simp, by simp, fun w hw => ?_⟩
    rcases Qfz.1 hw with hw | hw
    ·exact hA w hw
    ·rw [Qf3.1 hw]; exact hpz
  obtain ⟨B, e1, e2, hB⟩ := hadd
  obtain ⟨g1, g2⟩ := ih B (fun w hw => hz w (Qf5 _ hw)) hB
  rw [Qge, Qge, Nz, Nz, Wv, Wv, e1, e2]
  exact ⟨by rw [g1, hidx B hB], g2⟩
theorem keysBA_deal {a : Qn} (h : RQ a) {l : List Nat} (hl : Qdm a l) : Nz [] (Dx a.States l) = Qce a.States l ∧ (Wv [] (Dx a.States l)).length = manyB a.States l := by
 have := deal_zip (fun k s => ∃ i, i < a.States.length ∧ k = Qer a.States l i ∧ s = keyS a.States l i) (fun a' b x y ⟨i, hi, h1, h2⟩ ⟨j, hj, h3, h4⟩ => by rw [h1, h2, h3, h4]; exact keyB_eq h hl hi hj) ((List.range a.States.length).map fun i => (Qer a.States l i, keyS a.States l i)) [] (fun z hz => by
  obtain ⟨i, hi, rfl⟩ := Qgf.1 hz
  exact ⟨i, Qgo.1 hi, rfl, rfl⟩) (fun z hz => by cases hz)
 simp only [Qjc, Qhu] at this
 exact this
theorem blocks_l1 (K : Nat) (hK : 10000 ≤ K) {a : Qn} (h : RQ a) {l : List Nat} (hl : Qdm a l) (go : Int → Qn → (List Int) → Option (List Int)) (many : Nat) : ∀ (q k i : Nat) (U : List ByteArray) (X : List Nat), a.States.length - i = q → q < k → i ≤ a.States.length → X.length = i → U.length ≤ i →
  Vb K go k (many : Int) a (a.States.length : Int) (i : Int) (Zm l) (Qcg U) (Zm X ++ List.replicate (a.States.length - i) 0) = bif ((Wv U ((Dx a.States l).drop i)).length : Int) == (many : Int) then some (Zm (X ++ Nz U ((Dx a.States l).drop i))) else go ((Wv U ((Dx a.States l).drop i)).length : Int) a (Zm (X ++ Nz U ((Dx a.States l).drop i))) := by
 have hn := h.n2
 intro q
 induction q with
 | zero =>
  intro k i U X hq hk hi hX hU
  obtain ⟨k, rfl⟩ := Qjj k (by omega)
  have e0 : a.States.length - i = 0 := by omega
  have e1 : (Dx a.States l).drop i = [] := Qf9 (by rw [Dx, Qfw, Qgi]; omega)
  rw [Vb]
  dsimp only
  rw [Qfv (by omega), cF, e0, e1, knownM_len, Wv, Nz, List.replicate_zero, Qgg, Qgg]
 | succ q ih =>
  intro k i U X hq hk hi hX hU
  obtain ⟨k, rfl⟩ := Qjj k (by omega)
  have hil : i < a.States.length := by omega
  have hlt : (i : Int) < (a.States.length : Int) := by omega
  have e1 : a.States.length - i = (a.States.length - (i + 1)) + 1 := by omega
  have hkl : i < (Dx a.States l).length := by rw [Dx, Qfw, Qgi]; exact hil
  have hki : (Dx a.States l)[i] = Qer a.States l i := by simp [Dx]
  have hcl : (Zm X).length = i := by rw [Zm, Qfw]; exact hX
  have hj2 : Gj K (Vb K go k) (many : Int) (i : Int) (Qer a.States l i) a (a.States.length : Int) (i : Int) (Zm l) (Qcg U) (Zm X ++ 0 :: List.replicate (a.States.length - (i + 1)) 0) = bif ((Wv U ((Dx a.States l).drop i)).length : Int) == (many : Int) then some (Zm (X ++ Nz U ((Dx a.States l).drop i))) else go ((Wv U ((Dx a.States l).drop i)).length : Int) a (Zm (X ++ Nz U ((Dx a.States l).drop i))) := by
   have hadl : (Qcs U (Qer a.States l i)).length ≤ i + 1 := by
    rw [Qcs]; split
    ·omega
    ·rw [Qfu, Qft]; omega
   have h3 := ih k (i + 1) (Qcs U (Qer a.States l i)) (X ++ [posK (Qcs U (Qer a.States l i)) (Qer a.States l i)]) (by omega) (by omega) (by omega) (by rw [Qfu, Qft]; omega) hadl
   have hc : Zm (X ++ [posK (Qcs U (Qer a.States l i)) (Qer a.States l i)]) = Zm X ++ [((posK (Qcs U (Qer a.States l i)) (Qer a.States l i) : Nat) : Int)] := by simp [Zm]
   rw [hc, Qfx, Qgw, Qfx, Qgw] at h3
   rw [Qf2 hkl, hki, Wv, dealF_cons, ← h3]
   have hg := Qdc (Zm X) (List.replicate (a.States.length - (i + 1)) (0 : Int)) 0
   have hs := fun v => Qc5 (Zm X) (List.replicate (a.States.length - (i + 1)) (0 : Int)) 0 v
   rw [hcl] at hg
   rw [hcl] at hs
   rw [Gj, look]
   by_cases hm : Qer a.States l i ∈ U
   ·have ha : Qcs U (Qer a.States l i) = U := by rw [Qcs, if_pos hm]
    rw [if_pos hm, Option.isSome_some, Qg7, cF, Gi, hg, bS, look, if_pos hm, Qhd, Qf1, hs, Bx (n := i) (by omega), ha]
   ·have ha : Qcs U (Qer a.States l i) = U ++ [Qer a.States l i] := by rw [Qcs, if_neg hm]
    have hin : Qer a.States l i ∈ U ++ [Qer a.States l i] := Qfz.2 (.inr (Qf3.2 rfl))
    rw [if_neg hm, Option.isSome_none, Qg2, cT, Z3 rfl, knownM_len, ← Qe8, Gi, hg, bS, look, if_pos hin, Qhd, Qf1, hs, Bx (n := i) (by omega), ha]
  rw [Vb]
  dsimp only
  rw [Qf0 hlt, cT, Ze hil, bS, e1, Qhg]
  by_cases h0 : i = 0
  ·subst h0
   rw [Qfv (by omega), cF]
   exact hj2
  ·have hgl := hl.get i
   have hsz := it_size (Ny (n := (l.getD i 0 : Int)) (by omega) (by omega))
   have hsg := (sign_bytes h hl hil)
   have hsz2 : (ofBytes (Qb2 l (stA a.States i))).size ≤ 100000 := by rw [← Qdf, bytesI_of hsg.1]; exact hsg.2
   rw [Qf0 (by omega), cT, M3 (by rw [hl.len]; exact hil), bS, strconv_Itoa, if_pos (by omega), bS, Z3 (by show (itoaS (l.getD i 0 : Int)).size + 1 ≤ 9223372036854775807; omega), sign_ok hK h hl hil, bS, Z3 (by rw [ByteArray.size_append]; show (itoaS (l.getD i 0 : Int)).size + 1 + _ ≤ 9223372036854775807; omega)]
   rw [Qer, if_neg h0] at hj2
   exact hj2
theorem next_num {a : Qn} (h : RQ a) (l : List Nat) : Qdm a (Qce a.States l) :=
 ⟨Qe6 _ _, fun x hx => by
  rw [Qce, Qcl] at hx
  obtain ⟨k, hk, rfl⟩ := Qgf.1 hx
  have h1 := posK_lt ((En (Qbn a.States l) [] k).2 (.inr hk))
  show posK (Wv [] (Qbn a.States l)) k < 500
  have h2 := manyB_le a.States l
  have := h.n2
  rw [manyB] at h2
  omega⟩
theorem castL_repl (n : Nat) : Zm (List.replicate n 0) = List.replicate n 0 := by rw [Zm, Qh3]; rfl
theorem blocks_l0 (K : Nat) (hK : 10000 ≤ K) {a : Qn} (h : RQ a) : ∀ (k' k : Nat) (l : List Nat) (many : Nat), k' ≤ k → Qdm a l → many ≤ (Wv [] l).length → a.States.length < k' + many →
  U6 K k (many : Int) a (Zm l) = some (Zm (blkS a.States k' l many)) := by
 intro k'
 induction k' with
 | zero =>
  intro k l many _ h1 h2 h3
  have := (Qcf h1.len).1
  have := manyB_le a.States l
  omega
 | succ k' ih =>
  intro k l many hk h1 h2 h3
  obtain ⟨k, rfl⟩ := Qjj k (by omega)
  have hn := h.n2
  have hcl : (Zm l).length = a.States.length := by rw [Zm, Qfw]; exact h1.len
  have h4 := blocks_l1 K hK h h1 (U6 K k) many a.States.length K 0 [] [] rfl (by omega) (Qf7 _) rfl (Qf7 _)
  obtain ⟨d1, d2⟩ := keysBA_deal h h1
  rw [Qgb, Qgl, Qf8, d1, d2, Qha] at h4
  have hle := (Qcf h1.len).1
  rw [U6]
  dsimp only
  rw [hcl, Z3 (by omega), Z3 (Zl.2 ⟨by simp only [maxLen]; omega, by omega⟩), Qf1, blkS]
  refine Eq.trans h4 ?_
  by_cases he : manyB a.States l = many
  ·rw [if_pos he, he, Qg3, cT]
  ·rw [if_neg he, Qgd.2 (by omega), cF]
   exact ih k _ _ (by omega) (next_num h l) (by rw [uniq_next]; exact Qf6 _) (by omega)
theorem blocks_ok {K : Nat} (hK : 10000 ≤ K) {a : Qn} (h : Th a) : Et K a = some (Zm (Vn a.States)) := by
 have hn := h.1.n2
 have := blocks_l0 K hK h.1 (a.States.length + 1) K (List.replicate a.States.length 0) 0 (by omega) ⟨Qg0 .., fun x hx => by rw [(List.mem_replicate.1 hx).2]; omega⟩ (Qf7 _) (by omega)
 rw [castL_repl] at this
 rw [Et, h.auto (by omega), bS, Qg7, cF, Z3 (by omega), Z3 (Zl.2 ⟨by simp only [maxLen]; omega, by omega⟩), Qf1]
 exact this
end Go.Rv
namespace Go.Rv
theorem Qes {α : Type} {l : List α} {i : Nat} (d : α) (h : i < l.length) : Xl l (i : Int) = some (l.getD i d) := by rw [Ze h, Q2 h]
theorem Sn {α : Type} {l : List α} {i : Nat} (h : i < l.length) : l.take (i + 1) = l.take i ++ [l[i]] := by
 rw [List.take_add_one, List.getElem?_eq_getElem h]; rfl
theorem idx_new {l : List Nat} {i : Nat} (h : i < l.length) (hn : l[i] ∉ l.take i) : l.idxOf l[i] = i := by
 obtain ⟨h1, h2, h3⟩ := Qfb h
 refine Decidable.byContradiction fun hc => hn ?_
 have : l[l.idxOf l[i]] ∈ l.take i := by
  rw [List.mem_take_iff_getElem]
  exact ⟨l.idxOf l[i], by omega, rfl⟩
 rw [Qhq h2] at this
 exact this
theorem join_l0 (K : Nat) (t : Qc) (l : List Nat) (hl : l.length ≤ 256) : ∀ (q k i : Nat) (M : List (Int × Int)), l.length - i = q → q < k → i ≤ l.length → (∀ v : Nat, M.lookup (v : Int) = if v ∈ l.take i then some ((l.idxOf v : Nat) : Int) else none) →
  Yi K k (Zm l) (l.length : Int) (i : Int) t M ((Pr l).take i) = X3 K t (Pr l) := by
 intro q
 induction q with
 | zero =>
  intro k i M hq hk hi hM
  obtain ⟨k, rfl⟩ := Qjj k (by omega)
  rw [Yi]
  dsimp only
  rw [Qfv (by omega), cF, Qg8 (by rw [Pr, Qfw]; omega), bind_id]
 | succ q ih =>
  intro k i M hq hk hi hM
  obtain ⟨k, rfl⟩ := Qjj k (by omega)
  have hil : i < l.length := by omega
  have hlt : (i : Int) < (l.length : Int) := by omega
  have hjl : i < (Pr l).length := by rw [Pr, Qfw]; exact hil
  have hjt : (Pr l).take (i + 1) = (Pr l).take i ++ [((l.idxOf l[i] : Nat) : Int)] := by
   rw [Sn hjl]
   have := Qci hil
   rw [Q2 hjl] at this
   rw [this]
  have hm := hM l[i]
  have htl : ((Pr l).take i).length ≤ 256 := by rw [Qgn]; omega
  rw [Yi]
  dsimp only
  rw [Qf0 hlt, cT, M3 hil, bS, Q2 hil, hm]
  by_cases hin : l[i] ∈ l.take i
  ·rw [if_pos hin, Option.isSome_some, Qg7, cF, Vw, hm, if_pos hin, Qhd, Z3 (Zl.2 ⟨by simp only [maxLen, Qft]; omega, by simp only [Qft]; omega⟩), Bx (n := i) (by omega), ← hjt]
   refine ih k (i + 1) M (by omega) (by omega) (by omega) fun v => ?_
   rw [hM, Sn hil]
   by_cases hv : v ∈ l.take i
   ·rw [if_pos hv, if_pos (Qfz.2 (.inl hv))]
   ·rw [if_neg hv, if_neg fun hc => by
     rcases Qfz.1 hc with hc | hc
     ·exact hv hc
     ·rw [Qf3.1 hc] at hv; exact hv hin]
  ·have hM2 : ∀ v : Nat, (M ++ [(((l[i] : Nat) : Int), (i : Int))]).lookup (v : Int) = if v ∈ l.take (i + 1) then some ((l.idxOf v : Nat) : Int) else none := fun v => by
    rw [lookup_app, hM, Sn hil]
    by_cases hv : v ∈ l.take i
    ·rw [if_pos hv, if_pos (Qfz.2 (.inl hv))]; rfl
    ·rw [if_neg hv, Option.none_or, Qhb]
     by_cases he : v = l[i]
     ·subst he
      rw [Qg3, if_pos (Qfz.2 (.inr (Qf3.2 rfl))), idx_new hil hin]
     ·rw [Qgd.2 (by omega), if_neg fun hc => by
       rcases Qfz.1 hc with hc | hc
       ·exact hv hc
       ·exact he (Qf3.1 hc)]
      rfl
   have hin2 : l[i] ∈ l.take (i + 1) := by rw [Sn hil]; exact Qfz.2 (.inr (Qf3.2 rfl))
   rw [if_neg hin, Option.isSome_none, Qg2, cT, Z3 rfl, Vw, hM2, if_pos hin2, Qhd, Z3 (Zl.2 ⟨by simp only [maxLen, Qft]; omega, by simp only [Qft]; omega⟩), Bx (n := i) (by omega), ← hjt]
   exact ih k (i + 1) _ (by omega) (by omega) (by omega) hM2
theorem Th.withS {a : Qn} (h : Th a) {S : List Qa} (hs : RQ (withS a S)) : Th (withS a S) := ⟨hs, h.2⟩
theorem join_ok' {K : Nat} (hK : 10000 ≤ K) {a : Qn} (h : Th a) : Wy K ⟨a⟩ = some ⟨withS a (Nx a.States)⟩ := by
 have hb := (H1 h.1.toOk).len
 have hn := h.1.n2
 have := join_l0 K ⟨a⟩ (Vn a.States) (by omega) (Vn a.States).length K 0 [] rfl (by omega) (Qf7 _) fun v => by rw [List.take_zero, if_neg Qit]; rfl
 rw [Qgb, List.take_zero, send1_of (by omega) h.1 (by rw [Pr, Qfw, hb])] at this
 rw [Wy, blocks_ok hK h, bS, show (Zm (Vn a.States)).length = (Vn a.States).length by rw [Zm, Qfw]]
 exact this
theorem of_ok {a : Qn} (h : Th a) {K : Nat} (hK : 10000000 ≤ K) : ∃ l, I5 a.States l ∧ Qao K a = some (Tw a l, 0) := by
 obtain ⟨l, h1, h2⟩ := bury_ok' h hK
 have hcl := h.1.cl
 have hB := h.withS (h.1.bury l)
 refine ⟨l, h1, ?_⟩
 rw [Qao, h.auto (by omega), bS, Qg7, cF, Hp, Z3 (Zl.2 ⟨by simp only [maxLen, Qgu]; omega, by simp only [Qgu]; omega⟩), bS, Qf8]
 have e : (⟨a.Split, a.Counts, a.States⟩ : Qn) = a := rfl
 rw [e, h2, bS, Tw, Sm]
 dsimp only [Go.Rv.withS] at hB ⊢
 by_cases hc : a.Counts.length = 0
 ·rw [Qhe.2 (show (a.Counts.length : Int) = 0 by omega), cT, join_ok' (by omega) hB, bS, Ei]
  dsimp only [Go.Rv.withS]
  have := keep_ok (K := K) (by omega) (h.1.bury l).join
  dsimp only [Go.Rv.withS] at this
  rw [this, bS, hc, Qg3, if_pos rfl]
 ·rw [Qgd.2 (show (a.Counts.length : Int) ≠ 0 by omega), cF, Ei]
  have := keep_ok (K := K) (by omega) (h.1.bury l)
  dsimp only [Go.Rv.withS] at this
  rw [this, bS, Qgd.2 hc, if_neg (by decide)]
def supL {α : Type} (f : α → Nat) (l : List α) : Nat := l.foldr (fun x n => max (f x) n) 0
theorem le_supL {α : Type} (f : α → Nat) : ∀ {l : List α} {x : α}, x ∈ l → f x ≤ supL f l := by
 intro l
 induction l with
 | nil => intro x h; cases h
 | cons y l ih =>
  intro x h
  simp only [supL, List.foldr_cons]
  rcases Qg1.1 h with rfl | h
  ·omega
  ·have := ih h; simp only [supL] at this; omega
theorem shown_add (k : Nat) : W7 (k + 400) = some true := by kernel_rfl
theorem shown_at {K : Nat} (hK : 400 ≤ K) : W7 K = some true := by
 obtain ⟨k, rfl⟩ : ∃ k, K = k + 400 := ⟨K - 400, by omega⟩
 exact shown_add k
end Go.Rv
namespace Go.Rv
theorem Qe3 (to : List Int) (S : List Qa) (i : Nat) : (stA (D2 to S) i).Rule = (stA S i).Rule ∧ (stA (D2 to S) i).R = (stA S i).R := by rw [Sv]; exact ⟨rfl, rfl⟩
theorem Qdb {s t : Qa} (h : s.Rule = t.Rule) : Cc s = Cc t := by rw [Cc, Cc, h]
def allLive (S : List Qa) : Prop := ∀ i, i < S.length → ∀ m ∈ mvs S i, 0 ≤ m.To → Qdn S m.To.toNat
theorem bury_live {S : List Qa} {l : List Bool} (hl : I5 S l) {i : Nat} (h : Qdn S i) : Qdn (Xi S l) i := by
 induction h with
 | rule a b =>
  refine .rule (by rw [Xi, Wm]; exact a) ?_
  show Cc (stA (D2 (Qcm l) S) _) = true
  rw [Qdb (Qe3 _ _ _).1]; exact b
 | step m a b c d ih =>
  refine .step m (by rw [Xi, Wm]; exact a) ?_ c ih
  rw [Xi, Pg]
  refine Qgf.2 ⟨m, b, ?_⟩
  have hg : (Qcm l).getD m.To.toNat (-1) = m.To := by rw [Oz, if_pos ((hl.iff _).2 d)]; omega
  rw [Mk, if_pos ⟨c, by rw [hg]; exact c⟩, hg]
theorem bury_all {S : List Qa} {l : List Bool} (hl : I5 S l) : allLive (Xi S l) := fun _ _ m hm h0 => bury_live hl ((hl.iff _).1 (bury_to hm h0).2)
def Qep (S : List Qa) (i : Nat) : Nat := (Vn S).idxOf ((Vn S).getD i 0)
theorem Qeo {S : List Qa} (hT : toOk S) {i : Nat} (hi : i < S.length) : Qep S i < S.length ∧ eqL (Vn S) (Qep S i) i ∧ Qep S i ≤ i := by
 have hb := H1 hT
 obtain ⟨g1, g2, g3⟩ := Qfb (l := Vn S) (i := i) (by rw [hb.len]; exact hi)
 rw [Qep, Q2 (by rw [hb.len]; exact hi)]
 exact ⟨by have := hb.len; omega, g3, g1⟩
theorem rep_eq {S : List Qa} {i j : Nat} (h : eqL (Vn S) i j) : Qep S i = Qep S j := by rw [Qep, Qep, show (Vn S).getD i 0 = (Vn S).getD j 0 from h]
theorem rep_zero {S : List Qa} (hT : toOk S) {i : Nat} (hi : i < S.length) : Qep S i = 0 ↔ i = 0 := by
 obtain ⟨g1, g2, g3⟩ := Qeo hT hi
 constructor
 ·intro h
  rcases (H1 hT).sim _ _ g1 hi g2 with h' | h'
  ·exact h'.2
  ·omega
 ·intro h; omega
theorem Qfa {S : List Qa} (hT : toOk S) {i : Nat} (hi : i < S.length) {q : Qd} (hq : q ∈ mvs S i) (h0 : 0 ≤ q.To) : Mk (Pr (Vn S)) q = ⟨(Qep S q.To.toNat : Int), q.Ops⟩ := by
 have hq' := hT i hi q hq
 have hl := (H1 hT).len
 have hj : (Pr (Vn S)).getD q.To.toNat (-1) = (Qep S q.To.toNat : Int) := by
  rw [Qci (by omega), Qep, Q2 (by omega)]
 rw [Mk, hj, if_pos ⟨h0, by omega⟩]
theorem send_neg {to : List Int} {m : Qd} (h : m.To < 0) : Mk to m = ⟨-1, []⟩ := by rw [Mk, if_neg (by omega)]
theorem join_live {S : List Qa} (hT : toOk S) {i : Nat} (h : Qdn S i) : Qdn (Nx S) (Qep S i) := by
 have hb := H1 hT
 induction h with
 | @rule i a b =>
  obtain ⟨g1, g2, g3⟩ := Qeo hT a
  refine .rule (by rw [Nx, Wm]; exact g1) ?_
  show Cc (stA (D2 (Pr (Vn S)) S) _) = true
  rw [Qdb (Qe3 _ _ _).1]
  rcases hb.sim _ _ g1 a g2 with h | h
  ·rw [h.1, ← h.2]; exact b
  ·rw [Qdb h.2.2.2.1]; exact b
 | @step i m a b c d ih =>
  obtain ⟨g1, g2, g3⟩ := Qeo hT a
  have key : ∃ q ∈ mvs S (Qep S i), 0 ≤ q.To ∧ eqL (Vn S) q.To.toNat m.To.toNat := by
   rcases hb.sim _ _ g1 a g2 with h | ⟨_, _, _, _, hl, hk⟩
   ·rw [h.1, ← h.2]; exact ⟨m, b, c, rfl⟩
   ·obtain ⟨k, hk', rfl⟩ := Qgp b
    rcases hk k (by omega) hk' with h | h
    ·omega
    ·exact ⟨_, Qfy _, h.1, h.2.2.2⟩
  obtain ⟨q, hq, h0, he⟩ := key
  refine .step (Mk (Pr (Vn S)) q) (by rw [Nx, Wm]; exact g1) (by rw [Nx, Pg]; exact Qgf.2 ⟨q, hq, rfl⟩) ?_ ?_
  ·rw [Qfa hT g1 hq h0]; dsimp only; omega
  ·rw [Qfa hT g1 hq h0]; dsimp only; rw [Qf1, rep_eq he]; exact ih
theorem join_all {S : List Qa} (hT : toOk S) (ha : allLive S) : allLive (Nx S) := fun i hi m hm h0 => by
 rw [Nx, Wm] at hi
 obtain ⟨q, hq, h1, _, h2⟩ := join_to hT hi hm h0
 have := join_live hT (ha i hi q hq h1)
 rw [h2, Qf1]
 exact this
theorem keep_move {S : List Qa} (hT : toOk S) (h0 : 0 < S.length) {x : Nat} (hx : x ∈ Jq S) {m : Qd} (hm : m ∈ mvs S x) (hc : 0 ≤ m.To) : Mk (Ef S.length (Jq S)) m = ⟨((Jq S).idxOf m.To.toNat : Int), m.Ops⟩ := by
 have ho := Ej hT h0
 have hin := ho.closed x hx m hm hc
 have hg : (Ef S.length (Jq S)).getD m.To.toNat (-1) = ((Jq S).idxOf m.To.toNat : Int) := by rw [S8 (ho.lt _ hin), if_pos hin]
 rw [Mk, hg, if_pos ⟨hc, by omega⟩]
theorem keep_mvs {S : List Qa} {i : Nat} (h : i < (Jq S).length) : mvs (Qch S) i = (mvs S ((Jq S)[i])).map (Mk (Ef S.length (Jq S))) := by
 rw [mvs, Qe9 h, send_flat]; rfl
def Qc9 (S : List Qa) (l : List Bool) (b : Bool) : List Qa := if b = true then Nx (Xi S l) else Xi S l
theorem mid_spec {S : List Qa} {l : List Bool} (b : Bool) (hT : toOk S) (hl : I5 S l) : toOk (Qc9 S l b) ∧ (Qc9 S l b).length = S.length ∧ allLive (Qc9 S l b) := by
 have h1 := bury_ok (l := l) hT
 have h2 : (Xi S l).length = S.length := by rw [Xi, Wm]
 rw [Qc9]
 split
 ·exact ⟨join_ok h1, by rw [Nx, Wm, h2], join_all h1 (bury_all hl)⟩
 ·exact ⟨h1, h2, bury_all hl⟩
theorem Qel (S : List Qa) (l : List Bool) (b : Bool) : Sm S l b = Qch (Qc9 S l b) := rfl
theorem trim_le {S : List Qa} {l : List Bool} {b : Bool} (hT : toOk S) (h0 : 0 < S.length) (hl : I5 S l) : (Sm S l b).length ≤ S.length := by
 obtain ⟨m1, m2, _⟩ := mid_spec b hT hl
 have := Qe5 m1 (by omega)
 rw [Qel, Tr]; omega
end Go.Rv

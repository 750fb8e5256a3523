/- Trimming, plainly: the reference's moved and reached. -/
import Derived.Test.YtcmfaclkgdmpbaaGreatDoorRpUP
namespace Go.Rv
theorem moved_l2 (K : Nat) (go : Int → Int → (List Int) → Qc → Q5 → (List Ye) → (List Qa) → (List Int) → (List Int) → (List Int) → (List (List Qd)) → (List (List Qd)) → Option Qc) (i : Int) (c : Nat) (to : List Int) (a : Qc) (f : Q5) (cs : List Ye) (st : List Qa) (L R U : List Int) (V X : List (List Qd)) (hc : c < V.length) (hX : X.length ≤ 27) (hr : V[c].length ≤ 256) (hm : ∀ m ∈ V[c], m.To < to.length ∧ m.Ops.length ≤ 3) : ∀ (q k j : Nat) (x : List Qd), V[c].length - j = q → q < k → x.length ≤ j → j ≤ V[c].length →
  Z3 K go k i (c : Int) (j : Int) to a f cs st L R U V X x = go i (IntKind.i64.wrap ((c : Int) + 1)) to a f cs st L R U V (X ++ [x ++ Kv to (V[c].drop j)]) := by
 intro q
 induction q with
 | zero =>
  intro k j x hq hk hx hj
  obtain ⟨k, rfl⟩ : ∃ q, k = q + 1 := ⟨k - 1, by omega⟩
  rw [Z3]
  dsimp only
  rw [Q2 hc, bS, Qme (by omega), cF, Qmn (by omega), Kv, Qob, Qm1, Z5 (Zn.2 ⟨by simp only [maxLen, Qmh]; omega, by simp only [Qmh]; omega⟩)]
 | succ q ih =>
  intro k j x hq hk hx hj
  obtain ⟨k, rfl⟩ : ∃ q, k = q + 1 := ⟨k - 1, by omega⟩
  have hjl : j < V[c].length := by omega
  obtain ⟨h1, h2⟩ := hm _ (Qmg hjl)
  have hw := B1 (n := j) (by omega)
  have hlt : (j : Int) < (V[c].length : Int) := by omega
  have hih := fun y => ih k (j + 1) (x ++ [y]) (by omega) (by omega) (by rw [Qmc, Qmh]; omega) (by omega)
  simp only [Qmd, Qno] at hih
  have hro : ∀ y : Qd, roomy 32 (x.length + [y].length) = true := fun y => Zn.2 ⟨by simp only [maxLen, Qmh]; omega, by simp only [Qmh]; omega⟩
  rw [Z3]
  dsimp only
  rw [Q2 hc, bS, Qmk hlt, cT, Q2 hjl, bS, Qmi hjl, Kv, Qmv, hw]
  generalize V[c][j] = m at *
  have hno : Uw K (Z3 K go k) i (c : Int) (j : Int) to a f cs st L R U V X x = go i (IntKind.i64.wrap ((c : Int) + 1)) to a f cs st L R U V (X ++ [x ++ ⟨-1, []⟩ :: Kv to (V[c].drop (j + 1))]) := by
   rw [Uw, Z5 (hro _), hw, hih]
  by_cases h0 : m.To < 0
  ·rw [Qmk h0, cT, hno, Qji, if_neg (by omega)]
   rfl
  ·have ht : m.To.toNat < to.length := by omega
   have hg : Yb to m.To = some (to.getD m.To.toNat (-1)) := by
    have := Qb3 (-1) ht
    rw [Qn9 (by omega)] at this
    exact this
   rw [Qme h0, cF, hg, bS]
   by_cases h3 : to.getD m.To.toNat (-1) < 0
   ·rw [Qmk h3, cT, hno, Qji, if_neg (by omega)]
    rfl
   ·rw [Qme h3, cF, Z5 (Zn.2 ⟨by simp only [maxLen, Qm8]; omega, by simp only [Qm8]; omega⟩), Z5 (hro _), hih, Qji, if_pos ⟨by omega, by omega⟩, Qmq]
    rfl
theorem moved_l1 (K : Nat) (hK : 1000 ≤ K) (go : Int → (List Int) → Qc → Q5 → (List Ye) → (List Qa) → Option Qc) (i : Nat) (hi : i < 256) (to : List Int) (a : Qc) (f : Q5) (cs : List Ye) (st : List Qa) (hst : st.length = i) (s : Qa) (hs : Cq s) (hm : ∀ r ∈ s.Next, ∀ m ∈ r, m.To < to.length) : ∀ (q k j : Nat) (X : List (List Qd)), s.Next.length - j = q → q < k → X.length = j → j ≤ s.Next.length →
  Y7 K go k (i : Int) (j : Int) to a f cs st s.L s.R s.Rule s.Next X = go ((i + 1 : Nat) : Int) to a f cs (st ++ [⟨s.L, s.R, s.Rule, X ++ (s.Next.drop j).map (Kv to)⟩]) := by
 intro q
 have g1 := hs.l
 have g2 := hs.r
 have g3 := hs.rule
 have g4 := hs.next
 have hro : ∀ {n : Nat} {l : List Int}, l.length ≤ 1000 → roomy 8 (([] : List Int).length + l.length) = true := fun {n l} h => Zn.2 ⟨by simp only [maxLen, Qm8]; omega, by simp only [Qm8]; omega⟩
 induction q with
 | zero =>
  intro k j X hq hk hX hj
  obtain ⟨k, rfl⟩ : ∃ q, k = q + 1 := ⟨k - 1, by omega⟩
  rw [Y7]
  dsimp only
  rw [Qme (by omega), cF, Z5 (hro (n := 0) (by omega)), Z5 (hro (n := 0) (by omega)), Z5 (hro (n := 0) (by omega)), Z5 (Zn.2 ⟨by simp only [maxLen, Qmh]; omega, by simp only [Qmh]; omega⟩), B1 (n := i) (by omega), Qmn (by omega)]
  simp only [Qmq, Qob, Qm1]
 | succ q ih =>
  intro k j X hq hk hX hj
  obtain ⟨k, rfl⟩ : ∃ q, k = q + 1 := ⟨k - 1, by omega⟩
  have hjl : j < s.Next.length := by omega
  have hlt : (j : Int) < (s.Next.length : Int) := by omega
  have hrow := Qmg hjl
  have h2 := moved_l2 K (Y7 K go k) (i : Int) j to a f cs st s.L s.R s.Rule s.Next X hjl (by omega) (hs.row _ hrow) (fun m hmm => ⟨hm _ hrow m hmm, hs.ops _ hrow m hmm⟩) s.Next[j].length K 0 [] rfl (by have := hs.row _ hrow; omega) (Qms _) (Qmm _)
  rw [Qmr, Qmu, Qmq, B1 (n := j) (by omega)] at h2
  have h3 := ih k (j + 1) (X ++ [Kv to s.Next[j]]) (by omega) (by omega) (by rw [Qmc, Qmh]; omega) (by omega)
  rw [Y7]
  dsimp only
  rw [Qmk hlt, cT, h2, h3, Qmi hjl, Qmv, Qmd, Qno]
theorem moved_l0 (K : Nat) (hK : 1000 ≤ K) (x : Qc) (to : List Int) (f : Q5) (hn : x.States.length ≤ 256) (hs : ∀ s ∈ x.States, Cq s) (hm : ∀ s ∈ x.States, ∀ r ∈ s.Next, ∀ m ∈ r, m.To < to.length) : ∀ (q k i : Nat) (X : List Qa), x.States.length - i = q → q < k → X.length = i → i ≤ x.States.length →
  Y8 K k (i : Int) to x f x.Counts X = some ⟨x.Split, x.Counts, X ++ N8 to (x.States.drop i)⟩ := by
 intro q
 induction q with
 | zero =>
  intro k i X hq hk hX hi
  obtain ⟨k, rfl⟩ : ∃ q, k = q + 1 := ⟨k - 1, by omega⟩
  rw [Y8]
  dsimp only
  rw [Qme (by omega), cF, Qmn (by omega), N8, Qob, Qm1]
 | succ q ih =>
  intro k i X hq hk hX hi
  obtain ⟨k, rfl⟩ : ∃ q, k = q + 1 := ⟨k - 1, by omega⟩
  have hil : i < x.States.length := by omega
  have hlt : (i : Int) < (x.States.length : Int) := by omega
  have hst := Qmg hil
  have hsm := hs _ hst
  have h2 := moved_l1 K hK (Y8 K k) i (by omega) to x f x.Counts X hX x.States[i] hsm (hm _ hst) x.States[i].Next.length K 0 [] rfl (by have := hsm.next; omega) rfl (Qmm _)
  rw [Qmr, Qmu, Qmq] at h2
  have h3 := ih k (i + 1) (X ++ [Qem to x.States[i]]) (by omega) (by omega) (by rw [Qmc, Qmh]; omega) (by omega)
  rw [Qmd, Qno] at h3
  rw [Y8]
  dsimp only
  rw [Qmk hlt, cT, Q2 hil, bS, h2, Qmi hil]
  exact h3
theorem moved_of {K : Nat} (hK : 1000 ≤ K) {a : Qc} (h : RQ a) {to : List Int} (ht : to.length = a.States.length) : Vf K a to = some (withS a (N8 to a.States)) := by
 have hcl := h.cl
 have := moved_l0 K hK a to (Q5.mk fun _ => 0) h.n2 (fun s hs => h.small hs) (fun s hs r hr m hm => by
  obtain ⟨i, hi, rfl⟩ := Qnf hs
  have := h.toOk i hi m (by rw [mvs, Wq hi]; exact Qn8.2 ⟨r, hr, hm⟩)
  omega) a.States.length K 0 [] rfl (by have := h.n2; omega) rfl (Qmm _)
 rw [Qmr, Qmu, Qmq] at this
 rw [Vf, Z5 (Zn.2 ⟨by simp only [maxLen, Qm8]; omega, by simp only [Qm8]; omega⟩), Qmq]
 exact this
/- Reached. -/
def Qfu (n : Nat) (o : List Nat) : List Bool := (List.range n).map fun i => decide (i ∈ o)
theorem T9 (n : Nat) (o : List Nat) : (Qfu n o).length = n := by rw [Qfu, Qmf, Qm9]
theorem seenT_get {n i : Nat} {o : List Nat} (h : i < n) : (Qfu n o).getD i false = decide (i ∈ o) := by
 rw [Zb (by rw [T9]; exact h)]; simp [Qfu]
theorem seenT_snoc {n x : Nat} {o : List Nat} : (Qfu n o).set x true = Qfu n (o ++ [x]) := by
 refine Qn7 (by rw [Qne, T9, T9]) fun i h1 h2 => ?_
 rw [T9] at h2
 by_cases hi : x = i
 ·subst hi
  rw [Qoa]
  simp [Qfu]
 ·rw [List.getElem_set_ne hi]
  simp only [Qfu, Qnm, Qo5, Qmj, Qmp]
  simp [Ne.symm hi]
theorem reached_l2 (K : Nat) (go : Int → Int → Qc → (List Int) → (List Bool) → (List Int) → (List Int) → (List Int) → (List (List Qd)) → Option (List Int)) (i : Int) (c : Nat) (a : Qc) (L R U : List Int) (V : List (List Qd)) (hc : c < V.length) (n : Nat) (hm : ∀ m ∈ V[c], m.To < n) (hr : V[c].length ≤ 256) : ∀ (q k j : Nat) (o : List Nat), V[c].length - j = q → q < k → o.length ≤ 100000 + j →
  Yl K go k i (c : Int) (j : Int) a (Z0 o) (Qfu n o) L R U V = go i (IntKind.i64.wrap ((c : Int) + 1)) a (Z0 ((V[c].drop j).foldl Qff o)) (Qfu n ((V[c].drop j).foldl Qff o)) L R U V := by
 intro q
 induction q with
 | zero =>
  intro k j o hq hk ho
  obtain ⟨k, rfl⟩ : ∃ q, k = q + 1 := ⟨k - 1, by omega⟩
  rw [Yl]
  dsimp only
  rw [Q2 hc, bS, Qme (by omega), cF, Qmn (by omega)]
  rfl
 | succ q ih =>
  intro k j o hq hk ho
  obtain ⟨k, rfl⟩ : ∃ q, k = q + 1 := ⟨k - 1, by omega⟩
  have hj : j < V[c].length := by omega
  have hto := hm _ (Qmg hj)
  have hlt : (j : Int) < (V[c].length : Int) := by omega
  have hcl : (Z0 o).length = o.length := by rw [Z0, Qmf]
  rw [Yl]
  dsimp only
  rw [Q2 hc, bS, Qmk hlt, cT, Q2 hj, bS, Qmi hj, Qnp, B1 (n := j) (by omega)]
  generalize V[c][j] = m at *
  by_cases h0 : m.To ≥ 0
  ·obtain ⟨x, hx⟩ : ∃ x : Nat, m.To = (x : Int) := ⟨m.To.toNat, by omega⟩
   have hxn : x < n := by omega
   rw [Qmk h0, cT, hx, Qb3 false (by rw [T9]; exact hxn), bS, seenT_get hxn]
   by_cases hmem : x ∈ o
   ·have ha : Qff o m = o := by rw [Qff, if_neg (by rw [hx, Qml]; exact fun h => h.2 hmem)]
    rw [Qmk hmem, Qm5, cF, ha]
    exact ih k (j + 1) o (by omega) (by omega) (by omega)
   ·have ha : Qff o m = o ++ [x] := by rw [Qff, hx, Qml, if_pos ⟨by omega, hmem⟩]
    rw [Qme hmem, Qm4, cT, Z5 (Zn.2 ⟨by simp only [maxLen, Qmh]; omega, by simp only [Qmh]; omega⟩), Qml, seenT_snoc, ha]
    have := ih k (j + 1) (o ++ [x]) (by omega) (by omega) (by rw [Qmc, Qmh]; omega)
    rw [← this]
    simp [Z0]
  ·have ha : Qff o m = o := by rw [Qff, if_neg (fun h => h0 h.1)]
   rw [Qme h0, cF, ha]
   exact ih k (j + 1) o (by omega) (by omega) (by omega)
theorem reached_l1 (K : Nat) (hK : 1000 ≤ K) (go : Int → Qc → (List Int) → (List Bool) → Option (List Int)) (i : Nat) (hi : i < 256) (a : Qc) (s : Qa) (hs : Cq s) (n : Nat) (hn : n ≤ 256) (hm : ∀ r ∈ s.Next, ∀ m ∈ r, m.To < n) : ∀ (q k j : Nat) (o : List Nat), s.Next.length - j = q → q < k → j ≤ s.Next.length → o.length + 256 * (s.Next.length - j) ≤ 100000 →
  Ym K go k (i : Int) (j : Int) a (Z0 o) (Qfu n o) s.L s.R s.Rule s.Next = go ((i + 1 : Nat) : Int) a (Z0 ((s.Next.drop j).flatten.foldl Qff o)) (Qfu n ((s.Next.drop j).flatten.foldl Qff o)) := by
 have hsn := hs.next
 intro q
 induction q with
 | zero =>
  intro k j o hq hk hj ho
  obtain ⟨k, rfl⟩ : ∃ q, k = q + 1 := ⟨k - 1, by omega⟩
  rw [Ym]
  dsimp only
  rw [Qme (by omega), cF, Qmn (by omega), B1 (n := i) (by omega)]
  rfl
 | succ q ih =>
  intro k j o hq hk hj ho
  obtain ⟨k, rfl⟩ : ∃ q, k = q + 1 := ⟨k - 1, by omega⟩
  have hjl : j < s.Next.length := by omega
  have hrow := Qmg hjl
  have hrl := hs.row _ hrow
  have h2 := reached_l2 K (Ym K go k) (i : Int) j a s.L s.R s.Rule s.Next hjl n (hm _ hrow) hrl s.Next[j].length K 0 o rfl (by omega) (by omega)
  rw [Qmr, Qmu, B1 (n := j) (by omega)] at h2
  have hfl : (s.Next[j].foldl Qff o).length ≤ o.length + 256 := by
   have : ∀ (ms : List Qd) (o : List Nat), (ms.foldl Qff o).length ≤ o.length + ms.length := by
    intro ms
    induction ms with
    | nil => intro o; exact Qms _
    | cons m ms ih =>
     intro o
     have h1 := ih (Qff o m)
     have h2 : (Qff o m).length ≤ o.length + 1 := by
      rw [Qff]; split
      ·rw [Qmc, Qmh]; omega
      ·omega
     rw [Qnp, Qmw]; omega
   have := this s.Next[j] o
   omega
  rw [Ym]
  dsimp only
  rw [Qmk (by omega), cT, h2, ih k (j + 1) _ (by omega) (by omega) (by omega) (by omega), Qmi hjl, Qmz, List.foldl_append]
theorem reached_l0 (K : Nat) (hK : 10000 ≤ K) {a : Qc} (h : RQ a) : ∀ (k' k i : Nat) (o : List Nat), k' ≤ k → o.Nodup → (∀ x ∈ o, x < a.States.length) → i ≤ o.length → a.States.length < k' + i →
  Y2 K k (i : Int) a (Z0 o) (Qfu a.States.length o) = some (Z0 (bfs a.States k' i o)) := by
 intro k'
 induction k' with
 | zero =>
  intro k i o _ h1 h2 h3 h4
  have := Sv o (List.range a.States.length) h1 fun x hx => Qny.2 (h2 x hx)
  rw [Qm9] at this
  omega
 | succ k' ih =>
  intro k i o hk h1 h2 h3 h4
  obtain ⟨k, rfl⟩ : ∃ q, k = q + 1 := ⟨k - 1, by omega⟩
  have hn := h.n2
  have hol := Sv o (List.range a.States.length) h1 fun x hx => Qny.2 (h2 x hx)
  rw [Qm9] at hol
  have hcl : (Z0 o).length = o.length := by rw [Z0, Qmf]
  rw [Y2]
  rw [bfs]
  dsimp only
  rw [hcl]
  by_cases hi : i < o.length
  ·have hx := h2 _ (Qmg hi)
   have hsm := h.small (Qmg hx)
   have hsn := hsm.next
   have hmv : mvs a.States o[i] = (a.States[o[i]]).Next.flatten := by rw [mvs, Wq hx]
   have hto : ∀ m ∈ mvs a.States o[i], m.To < a.States.length := h.toOk _ hx
   have := reached_l1 K (by omega) (Y2 K k) i (by omega) a a.States[o[i]] hsm a.States.length hn (fun r hr m hm => hto m (by rw [hmv]; exact Qn8.2 ⟨r, hr, hm⟩)) a.States[o[i]].Next.length K 0 o rfl (by omega) (Qmm _) (by omega)
   rw [Qmr, Qmu, ← hmv] at this
   rw [if_pos hi, Qmk (by omega), cT, Wz hi, Zb hi, bS, Q2 hx, bS, this]
   refine ih k (i + 1) _ (by omega) (Qh1 _ _ h1) (fun x hx' => ?_) ?_ (by omega)
   ·rcases (Qls _ _ _).1 hx' with h' | ⟨m, hm, h0, rfl⟩
    ·exact h2 x h'
    ·have := hto m hm; omega
   ·obtain ⟨t, ht⟩ := Qlr (mvs a.States o[i]) o
    rw [ht, Qmc]; omega
  ·rw [if_neg hi, Qme (by omega), cF]
theorem reached_ok {K : Nat} (hK : 10000 ≤ K) {a : Qc} (h : RQ a) : Wt K a = some (Z0 (Cm a.States)) := by
 have h0 := h.n1
 have hn := h.n2
 have := reached_l0 K hK h (a.States.length + 1) K 0 [0] (by omega) (Qoo.2 ⟨Qor, Qox⟩) (fun x hx => by rw [Qmp.1 hx]; omega) (Qmm _) (by omega)
 have e : Yb (List.replicate a.States.length false) 0 = some false := by
  have := Q2 (l := List.replicate a.States.length false) (i := 0) (by rw [Qm2]; omega)
  rw [Qn5] at this
  exact this
 have e2 : (List.replicate a.States.length false).set (Int.toNat 0) true = Qfu a.States.length [0] := by
  have e3 : List.replicate a.States.length false = Qfu a.States.length [] := by
   refine Qn7 (by rw [T9, Qm2]) fun i h1 h2 => ?_
   simp [Qfu]
  rw [e3]
  exact seenT_snoc (o := [])
 rw [Wt, Z5 (by omega), Z5 (Zn.2 ⟨by simp only [maxLen]; omega, by omega⟩), Qml, e, bS, e2]
 exact this
end Go.Rv

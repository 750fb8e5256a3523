/- Trimming, plainly: the reference's alike, deal and Blocks. -/
import Derived.Test.YtcmfaclkgdmpbaaGreatDoorRpUQ
namespace Go.Rv
theorem u8_list (l : List Int) : (ofBytes l).toList = l.map fun x => UInt8.ofNat x.toNat := by
 have key : ∀ (l : List Int) (r : ByteArray), (l.foldl (fun r n => r.push (UInt8.ofNat n.toNat)) r).data.toList = r.data.toList ++ l.map fun x => UInt8.ofNat x.toNat := by
  intro l
  induction l with
  | nil => intro r; simp
  | cons x l ih =>
   intro r
   rw [Qnp, ih]
   simp [ByteArray.push]
 rw [ByteArray.toList_eq, ofBytes, key]
 simp
theorem ops_beq {O P : List Int} (hO : ∀ c ∈ O, 1 ≤ c ∧ c ≤ 3) (hP : ∀ c ∈ P, 1 ≤ c ∧ c ≤ 3) : ((ofBytes O).toList == (ofBytes P).toList) = decide (O = P) := by
 rw [Qo6, Qn0, Qnw, u8_list, u8_list]
 constructor
 ·intro h
  have h2 := congrArg (List.map fun b : UInt8 => (b.toNat : Int)) h
  rw [Qph, Qph] at h2
  have e : ∀ Q : List Int, (∀ c ∈ Q, 1 ≤ c ∧ c ≤ 3) → Q.map ((fun b : UInt8 => (b.toNat : Int)) ∘ fun x => UInt8.ofNat x.toNat) = Q := fun Q hQ => by
   refine (List.map_congr_left fun x hx => ?_).trans (List.map_id Q)
   have := hQ x hx
   simp only [Function.comp, id]
   rw [UInt8.toNat_ofNat_of_lt' (by show x.toNat < 256; omega)]
   omega
  rw [e O hO, e P hP] at h2
  exact h2
 ·intro h; rw [h]
theorem rows_map {α β : Type} (f : α → β) : ∀ (A B : List (List α)), A.length = B.length → (∀ i, (h : i < A.length) → (h' : i < B.length) → A[i].length = B[i].length) → (A.flatten.map f = B.flatten.map f ↔ A.map (fun r => r.map f) = B.map fun r => r.map f) := by
 intro A
 induction A with
 | nil =>
  intro B hl _
  rw [Qn3.1 hl.symm]
  simp
 | cons r A ih =>
  intro B hl hr
  cases B with
  | nil => simp at hl
  | cons s B =>
   have h0 := hr 0 (by simp) (by simp)
   simp only [List.getElem_cons_zero] at h0
   have hi := ih B (by simpa using hl) fun i h h' => by
    have := hr (i + 1) (by simpa using h) (by simpa using h')
    simpa using this
   rw [Qmz, Qmz, Qnk, Qnk, Qmv, Qmv, Qn6, ← hi]
   constructor
   ·intro h
    exact List.append_inj h (by rw [Qmf, Qmf, h0])
   ·rintro ⟨h1, h2⟩
    rw [h1, h2]
theorem alike_l3 (K : Nat) (go : (List Int) → Int → (List Int) → (List Int) → (List Int) → (List (List Qd)) → (List Int) → (List Int) → (List Int) → (List (List Qd)) → Option Bool) (l : List Nat) (c : Nat) (L R U : List Int) (V : List (List Qd)) (L' R' U' : List Int) (V' : List (List Qd)) (hc : c < V.length) (hc' : c < V'.length) (hlen : V[c].length = V'[c].length) (hr : V[c].length ≤ 256) (hm : ∀ m ∈ V[c], Qf2 l m ∧ m.To < l.length ∧ (m.To < 0 → m.Ops = [])) (hm' : ∀ m ∈ V'[c], Qf2 l m ∧ m.To < l.length ∧ (m.To < 0 → m.Ops = [])) : ∀ (q k j : Nat), V[c].length - j = q → q < k →
  Ys K go k (Z0 l) (c : Int) (j : Int) L R U V L' R' U' V' = if (V[c].drop j).map (Qfo l) = (V'[c].drop j).map (Qfo l) then go (Z0 l) (IntKind.i64.wrap ((c : Int) + 1)) L R U V L' R' U' V' else some false := by
 intro q
 induction q with
 | zero =>
  intro k j hq hk
  obtain ⟨k, rfl⟩ : ∃ q, k = q + 1 := ⟨k - 1, by omega⟩
  rw [Ys]
  dsimp only
  rw [Q2 hc, bS, Qme (by omega), cF, Qmn (by omega), Qmn (by omega), if_pos rfl]
 | succ q ih =>
  intro k j hq hk
  obtain ⟨k, rfl⟩ : ∃ q, k = q + 1 := ⟨k - 1, by omega⟩
  have hj : j < V[c].length := by omega
  have hj' : j < V'[c].length := by omega
  have hlt : (j : Int) < (V[c].length : Int) := by omega
  obtain ⟨⟨a1, a2, a3⟩, a4, a5⟩ := hm _ (Qmg hj)
  obtain ⟨⟨b1, b2, b3⟩, b4, b5⟩ := hm' _ (Qmg hj')
  have hih := ih k (j + 1) (by omega) (by omega)
  rw [Ys]
  dsimp only
  rw [Q2 hc, bS, Qmk hlt, cT, Q2 hj, bS, Q2 hc', bS, Q2 hj', bS, ops_beq a1 b1, B1 (n := j) (by omega), Qmi hj, Qmi hj', Qmv, Qmv, hih]
  generalize V[c][j] = m at *
  generalize V'[c][j] = n at *
  have hkey : Qfo l m = Qfo l n ↔ m.Ops = n.Ops ∧ (m.To < 0 ↔ n.To < 0) ∧ (0 ≤ m.To → l.getD m.To.toNat 0 = l.getD n.To.toNat 0) := by
   rw [Qhz, mSim, eqL]
   constructor
   ·rintro (⟨h1, h2⟩ | ⟨h1, h2, h3, h4⟩)
    ·exact ⟨by rw [a5 h1, b5 h2], ⟨fun _ => h2, fun _ => h1⟩, fun h => by omega⟩
    ·exact ⟨h3, ⟨fun h => by omega, fun h => by omega⟩, fun _ => h4⟩
   ·rintro ⟨h1, h2, h3⟩
    by_cases h : m.To < 0
    ·exact .inl ⟨h, h2.1 h⟩
    ·exact .inr ⟨by omega, by have := mt h2.2 h; omega, h1, h3 (by omega)⟩
  have hif : Qfo l m = Qfo l n → ∀ (A B : List KM) (G F : Option Bool), (if A = B then G else F) = if Qfo l m :: A = Qfo l n :: B then G else F := fun e A B G F => by
   rw [e]
   by_cases hAB : A = B
   ·rw [if_pos hAB, if_pos (by rw [hAB])]
   ·rw [if_neg hAB, if_neg fun h => hAB (List.cons.inj h).2]
  by_cases g1 : m.Ops = n.Ops
  ·rw [Qmk g1, Qm5, cF]
   by_cases g2 : m.To < 0 ↔ n.To < 0
   ·rw [show (decide (m.To < 0) == decide (n.To < 0)) = true by rw [Qn0]; exact decide_eq_decide.2 g2, Qm5, cF]
    by_cases g3 : m.To ≥ 0
    ·have g4 : n.To ≥ 0 := by have := mt g2.2 (by omega); omega
     have e1 := Wz (l := l) (i := m.To.toNat) (by omega)
     have e2 := Wz (l := l) (i := n.To.toNat) (by omega)
     rw [Qn9 g3] at e1
     rw [Qn9 g4] at e2
     rw [Qmk g3, cT, e1, bS, e2, bS]
     by_cases g5 : l.getD m.To.toNat 0 = l.getD n.To.toNat 0
     ·rw [g5, Qnl, cF]
      exact hif (hkey.2 ⟨g1, g2, fun _ => g5⟩) _ _ _ _
     ·rw [bne_iff_ne.2 (by omega), cT, Yt, if_neg fun h => g5 ((hkey.1 (List.cons.inj h).1).2.2 g3)]
    ·rw [Qme g3, cF]
     exact hif (hkey.2 ⟨g1, g2, fun h => absurd h g3⟩) _ _ _ _
   ·rw [show (decide (m.To < 0) == decide (n.To < 0)) = false by rw [Qmt]; exact fun h => g2 (decide_eq_decide.1 h), Qm4, cT, Yt, if_neg fun h => g2 (hkey.1 (List.cons.inj h).1).2.1]
  ·rw [Qme g1, Qm4, cT, Yt, if_neg fun h => g1 (hkey.1 (List.cons.inj h).1).1]
theorem alike_l2 (K : Nat) (hK : 1000 ≤ K) (l : List Nat) (s t : Qa) (hs : Cq s) (hsr : s.Rule.length = s.Next.length) (htr : t.Rule.length = s.Next.length) (htn : t.Next.length = s.Next.length) (hrow : ∀ i, (h : i < s.Next.length) → (h' : i < t.Next.length) → s.Next[i].length = t.Next[i].length) (hm : ∀ r ∈ s.Next, ∀ m ∈ r, Qf2 l m ∧ m.To < l.length ∧ (m.To < 0 → m.Ops = [])) (hm' : ∀ r ∈ t.Next, ∀ m ∈ r, Qf2 l m ∧ m.To < l.length ∧ (m.To < 0 → m.Ops = [])) : ∀ (q k c : Nat), s.Next.length - c = q → q < k →
  Yi K k (Z0 l) (c : Int) s.L s.R s.Rule s.Next t.L t.R t.Rule t.Next = some (decide (s.Rule.drop c = t.Rule.drop c ∧ (s.Next.drop c).map (fun r => r.map (Qfo l)) = (t.Next.drop c).map fun r => r.map (Qfo l))) := by
 have hn := hs.next
 intro q
 induction q with
 | zero =>
  intro k c hq hk
  obtain ⟨k, rfl⟩ : ∃ q, k = q + 1 := ⟨k - 1, by omega⟩
  rw [Yi]
  dsimp only
  rw [Qme (by omega), cF, Qmn (by omega), Qmn (by omega), Qmn (by omega), Qmn (by omega)]
  rfl
 | succ q ih =>
  intro k c hq hk
  obtain ⟨k, rfl⟩ : ∃ q, k = q + 1 := ⟨k - 1, by omega⟩
  have hc : c < s.Next.length := by omega
  have hc' : c < t.Next.length := by omega
  have hu : c < s.Rule.length := by omega
  have hu' : c < t.Rule.length := by omega
  have hlt : (c : Int) < (s.Next.length : Int) := by omega
  have h3 := alike_l3 K (Yi K k) l c s.L s.R s.Rule s.Next t.L t.R t.Rule t.Next hc hc' (hrow c hc hc') (hs.row _ (Qmg hc)) (hm _ (Qmg hc)) (hm' _ (Qmg hc')) s.Next[c].length K 0 rfl (by have := hs.row _ (Qmg hc); omega)
  rw [Qmr, Qmu, Qmu, B1 (n := c) (by omega), ih k (c + 1) (by omega) (by omega)] at h3
  rw [Yi]
  dsimp only
  rw [Qmk hlt, cT, Q2 hu, bS, Q2 hu', bS, Qmi hc, Qmi hc', Qmi hu, Qmi hu', Qmv, Qmv, h3]
  simp only [Qn6]
  by_cases g1 : s.Rule[c] = t.Rule[c]
  ·rw [g1, Qnl, cF]
   by_cases g2 : s.Next[c].map (Qfo l) = t.Next[c].map (Qfo l)
   ·rw [if_pos g2]
    congr 1
    rw [decide_eq_decide]
    exact ⟨fun h => ⟨⟨rfl, h.1⟩, g2, h.2⟩, fun h => ⟨h.1.2, h.2.2⟩⟩
   ·rw [if_neg g2, Qme fun h => g2 h.2.1]
  ·rw [bne_iff_ne.2 g1, cT, Qme fun h => g1 h.1.1]
theorem alike_l1 (K : Nat) (hK : 1000 ≤ K) (l : List Nat) (s t : Qa) (hs : Cq s) (hR : s.R.length = t.R.length) (hsr : s.Rule.length = s.Next.length) (htr : t.Rule.length = s.Next.length) (htn : t.Next.length = s.Next.length) (hrow : ∀ i, (h : i < s.Next.length) → (h' : i < t.Next.length) → s.Next[i].length = t.Next[i].length) (hm : ∀ r ∈ s.Next, ∀ m ∈ r, Qf2 l m ∧ m.To < l.length ∧ (m.To < 0 → m.Ops = [])) (hm' : ∀ r ∈ t.Next, ∀ m ∈ r, Qf2 l m ∧ m.To < l.length ∧ (m.To < 0 → m.Ops = [])) : ∀ (q k c : Nat), s.R.length - c = q → q < k →
  Xk K k (Z0 l) (c : Int) s.L s.R s.Rule s.Next t.L t.R t.Rule t.Next = some (decide (s.R.drop c = t.R.drop c ∧ s.Rule = t.Rule ∧ s.Next.map (fun r => r.map (Qfo l)) = t.Next.map fun r => r.map (Qfo l))) := by
 have hn := hs.r
 have hnn := hs.next
 intro q
 induction q with
 | zero =>
  intro k c hq hk
  obtain ⟨k, rfl⟩ : ∃ q, k = q + 1 := ⟨k - 1, by omega⟩
  have := alike_l2 K hK l s t hs hsr htr htn hrow hm hm' s.Next.length K 0 rfl (by omega)
  rw [Qmr] at this
  simp only [Qmu] at this
  rw [Xk]
  dsimp only
  rw [Qme (by omega), cF, Qmn (by omega), Qmn (by omega), this]
  congr 1
  rw [decide_eq_decide]
  exact ⟨fun h => ⟨rfl, h⟩, fun h => h.2⟩
 | succ q ih =>
  intro k c hq hk
  obtain ⟨k, rfl⟩ : ∃ q, k = q + 1 := ⟨k - 1, by omega⟩
  have hc : c < s.R.length := by omega
  have hc' : c < t.R.length := by omega
  have hlt : (c : Int) < (s.R.length : Int) := by omega
  rw [Xk]
  dsimp only
  rw [Qmk hlt, cT, Q2 hc, bS, Q2 hc', bS, B1 (n := c) (by omega), ih k (c + 1) (by omega) (by omega), Qmi hc, Qmi hc']
  simp only [Qn6]
  by_cases g1 : s.R[c] = t.R[c]
  ·rw [g1, Qnl, cF]
   congr 1
   rw [decide_eq_decide]
   exact ⟨fun h => ⟨⟨rfl, h.1⟩, h.2⟩, fun h => ⟨h.1.2, h.2⟩⟩
  ·rw [bne_iff_ne.2 g1, cT, Qme fun h => g1 h.1.1]
theorem RQ.mvK {a : Qc} (h : RQ a) {l : List Nat} (hl : Qce a l) {i : Nat} (hi : i < a.States.length) : ∀ r ∈ a.States[i].Next, ∀ m ∈ r, Qf2 l m ∧ m.To < l.length ∧ (m.To < 0 → m.Ops = []) := fun r hr m hm => by
 have hmem : m ∈ Go.Rv.mvs a.States i := by rw [Go.Rv.mvs, Wq hi]; exact Qn8.2 ⟨r, hr, hm⟩
 refine ⟨h.mvL hl hi m hmem, by rw [hl.len]; exact h.toOk i hi m hmem, fun h0 => ?_⟩
 rcases h.mvs hi hmem with ⟨_, h2⟩ | ⟨h2, _⟩
 ·exact h2
 ·omega
theorem alike_ok {K : Nat} (hK : 1000 ≤ K) {a : Qc} (h : RQ a) {l : List Nat} (hl : Qce a l) {i j : Nat} (hi : i < a.States.length) (hj : j < a.States.length) : Wa K a (Z0 l) (i : Int) (j : Int) = some (decide (Rh a.States l i = Rh a.States l j)) := by
 have hn := h.n2
 rw [Wa]
 by_cases h1 : i = 0
 ·subst h1
  rw [show (((0 : Nat) : Int) == (0 : Int)) = true from rfl, cT, Yu]
  congr 1
  rw [Qo6, Qn0, Qnw, Qlo]
  omega
 ·rw [Qmt.2 (show (i : Int) ≠ 0 by omega), cF]
  by_cases h2 : j = 0
  ·subst h2
   rw [show (((0 : Nat) : Int) == (0 : Int)) = true from rfl, cT, Yu]
   congr 1
   rw [Qo6, Qn0, Qnw, Qlo]
   omega
  ·rw [Qmt.2 (show (j : Int) ≠ 0 by omega), cF, Wz (by rw [hl.len]; exact hi), bS, Wz (by rw [hl.len]; exact hj), bS]
   by_cases h3 : l.getD i 0 = l.getD j 0
   ·have gi := h.st _ (Qmg hi)
    have gj := h.st _ (Qmg hj)
    rw [h3, Qnl, cF, Q2 hi, bS, Q2 hj, bS]
    by_cases h4 : a.States[i].R.length = a.States[j].R.length
    ·obtain ⟨l1, l2, l3⟩ := gi.mvsLen gj h4
     have hrow : ∀ c, (h : c < a.States[i].Next.length) → (h' : c < a.States[j].Next.length) → a.States[i].Next[c].length = a.States[j].Next[c].length := fun c h h' => by
      have := gi.row _ (Qmg h)
      have := gj.row _ (Qmg h')
      omega
     have h5 := alike_l1 K hK l a.States[i] a.States[j] (h.small (Qmg hi)) h4 (by have := gi.rl; have := gi.nl; omega) (by have := gi.rl; have := gi.nl; omega) (by omega) hrow (h.mvK hl hi) (h.mvK hl hj) a.States[i].R.length K 0 rfl (by have := (h.small (Qmg hi)).r; omega)
     rw [Qmr, Qmu, Qmu] at h5
     rw [h4, Qnl, cF, h5]
     congr 1
     rw [decide_eq_decide, ← rows_map (Qfo l) _ _ l2 hrow, Rh, Rh, if_neg h1, if_neg h2, mvs, mvs, Wq hi, Wq hj]
     simp only [Qmy, Qmo]
     exact ⟨fun h => ⟨h3, h⟩, fun h => h.2⟩
    ·rw [bne_iff_ne.2 (show (a.States[i].R.length : Int) ≠ (a.States[j].R.length : Int) by omega), cT, Qme fun he => by
      rw [Rh, Rh, if_neg h1, if_neg h2, Wq hi, Wq hj] at he
      simp only [Qmy, Qmo] at he
      exact h4 (congrArg List.length he.2.1)]
   ·rw [bne_iff_ne.2 (show ((l.getD i 0 : Nat) : Int) ≠ ((l.getD j 0 : Nat) : Int) by omega), cT, Yu]
    congr 1
    rw [Qmt.2 (show (i : Int) ≠ (j : Int) from fun e => h3 (by rw [show i = j by omega])), Qme fun he => h3 (keyS_of he)]
/- Deal. -/
theorem posK_get {κ : Type} [DecidableEq κ] {U : List κ} {x : κ} (h : x ∈ U) : U[posK U x]'(posK_lt h) = x := Qoe (posK_lt h)
theorem posK_min {κ : Type} [DecidableEq κ] {U : List κ} {x : κ} {i : Nat} (hi : i < U.length) (h : U[i] = x) : posK U x ≤ i := by
 refine Decidable.byContradiction fun hc => ?_
 have := List.not_of_lt_findIdx (p := (· == x)) (xs := U) (i := i) (by rw [posK, List.idxOf] at hc; omega)
 simp [h] at this
theorem deal_l1 (K : Nat) (hK : 1000 ≤ K) (go : (List Int) → Int → Qc → (List Int) → (List Int) → Option ((List Int) × Int)) {a : Qc} (h : RQ a) {l : List Nat} (hl : Qce a l) {i : Nat} (hi : i < a.States.length) (F : List Nat) (hF : ∀ x ∈ F, x < a.States.length) (hFl : F.length ≤ 256) (X : List Nat) (hX : X.length = i) (m : Nat) : ∀ (q k j : Nat), F.length - j = q → q < k → j ≤ F.length → (∀ x ∈ F.take j, Rh a.States l x ≠ Rh a.States l i) →
  ∃ F', F'.map (Rh a.States l) = Qfg (F.map (Rh a.States l)) (Rh a.States l i) ∧ (∀ x ∈ F', x < a.States.length) ∧ F'.length ≤ F.length + 1 ∧ Xx K go k (Z0 l) (i : Int) (j : Int) a (Z0 F) (Z0 X ++ 0 :: List.replicate m 0) = go (Z0 l) ((i + 1 : Nat) : Int) a (Z0 F') (Z0 (X ++ [posK (Qfg (F.map (Rh a.States l)) (Rh a.States l i)) (Rh a.States l i)]) ++ List.replicate m 0) := by
 have hn := h.n2
 have hcX : (Z0 X).length = i := by rw [Z0, Qmf]; exact hX
 have hj2 : ∀ (F' : List Nat) (p : Nat), Y3 K go (Z0 l) (i : Int) (p : Int) a (Z0 F') (Z0 X ++ 0 :: List.replicate m 0) = go (Z0 l) ((i + 1 : Nat) : Int) a (Z0 F') (Z0 (X ++ [p]) ++ List.replicate m 0) := fun F' p => by
  have hg := Qb4 (Z0 X) (List.replicate m (0 : Int)) 0
  have hs := Qbh (Z0 X) (List.replicate m (0 : Int)) 0 (p : Int)
  rw [hcX] at hg hs
  rw [Y3, hg, bS, Qml, hs, B1 (n := i) (by omega)]
  simp [Z0]
 have hcF : (Z0 F).length = F.length := by rw [Z0, Qmf]
 intro q
 induction q with
 | zero =>
  intro k j hq hk hj hno
  obtain ⟨k, rfl⟩ : ∃ q, k = q + 1 := ⟨k - 1, by omega⟩
  have hj' : j = F.length := by omega
  subst hj'
  rw [List.take_length] at hno
  have hnew : Rh a.States l i ∉ F.map (Rh a.States l) := fun hc => by
   obtain ⟨x, hx, e⟩ := Qnd.1 hc
   exact hno x hx e
  refine ⟨F ++ [i], ?_, fun x hx => ?_, by rw [Qmc, Qmh]; omega, ?_⟩
  ·rw [Qfg, if_neg hnew, Qnk]; rfl
  ·rcases Qmj.1 hx with hx | hx
   ·exact hF x hx
   ·rw [Qmp.1 hx]; exact hi
  ·have e : Z0 F ++ [(i : Int)] = Z0 (F ++ [i]) := by simp [Z0]
   rw [Xx]
   dsimp only
   rw [hcF, Qme (by omega), cF, Qnn, cT, Z5 (Zn.2 ⟨by simp only [maxLen, Qmh]; omega, by simp only [Qmh]; omega⟩), e, hj2, Qfg, if_neg hnew, posK_new hnew, Qmf]
 | succ q ih =>
  intro k j hq hk hj hno
  obtain ⟨k, rfl⟩ : ∃ q, k = q + 1 := ⟨k - 1, by omega⟩
  have hjl : j < F.length := by omega
  have hx := hF _ (Qmg hjl)
  rw [Xx]
  dsimp only
  rw [hcF, Qmk (by omega), cT, Wz hjl, Zb hjl, bS, alike_ok hK h hl hx hi, bS, B1 (n := j) (by omega)]
  by_cases he : Rh a.States l F[j] = Rh a.States l i
  ·have hin : Rh a.States l i ∈ F.map (Rh a.States l) := Qnd.2 ⟨F[j], Qmg hjl, he⟩
   refine ⟨F, by rw [Qfg, if_pos hin], hF, by omega, ?_⟩
   have hp : posK (F.map (Rh a.States l)) (Rh a.States l i) = j := by
    have h1 : posK (F.map (Rh a.States l)) (Rh a.States l i) ≤ j := posK_min (by rw [Qmf]; exact hjl) (by rw [Qnm]; exact he)
    have h2 := posK_lt hin
    have h3 := posK_get hin
    refine Decidable.byContradiction fun hc => ?_
    rw [Qnm] at h3
    rw [Qmf] at h2
    exact hno _ (by rw [Qpd]; exact ⟨_, by omega, rfl⟩) h3
   rw [Qmk he, Qm5, cF, Qmt.2 (by omega), cF, hj2, Qfg, if_pos hin, hp]
  ·obtain ⟨F', g1, g2, g3, g4⟩ := ih k (j + 1) (by omega) (by omega) (by omega) fun x hx => by
    rw [T4 hjl] at hx
    rcases Qmj.1 hx with hx | hx
    ·exact hno x hx
    ·rw [Qmp.1 hx]; exact he
   refine ⟨F', g1, g2, g3, ?_⟩
   rw [Qme he, Qm4, cT, g4]
theorem deal_l0 (K : Nat) (hK : 1000 ≤ K) {a : Qc} (h : RQ a) {l : List Nat} (hl : Qce a l) : ∀ (q k i : Nat) (F X : List Nat), a.States.length - i = q → q < k → i ≤ a.States.length → X.length = i → F.length ≤ i → (∀ x ∈ F, x < a.States.length) →
  Yn K k (Z0 l) (i : Int) a (Z0 F) (Z0 X ++ List.replicate (a.States.length - i) 0) = some (Z0 (X ++ Rb (F.map (Rh a.States l)) ((Qb1 a.States l).drop i)), ((W8 (F.map (Rh a.States l)) ((Qb1 a.States l).drop i)).length : Int)) := by
 have hn := h.n2
 have hcl : (Z0 l).length = a.States.length := by rw [Z0, Qmf]; exact hl.len
 intro q
 induction q with
 | zero =>
  intro k i F X hq hk hi hX hF hFm
  obtain ⟨k, rfl⟩ : ∃ q, k = q + 1 := ⟨k - 1, by omega⟩
  have e0 : a.States.length - i = 0 := by omega
  have e1 : (Qb1 a.States l).drop i = [] := Qmn (by rw [Cn]; omega)
  rw [Yn]
  dsimp only
  rw [hcl, Qme (by omega), cF, e0, e1, W8, Rb, List.replicate_zero, Qm1, Qm1, Qmf, show (Z0 F).length = F.length by rw [Z0, Qmf]]
 | succ q ih =>
  intro k i F X hq hk hi hX hF hFm
  obtain ⟨k, rfl⟩ : ∃ q, k = q + 1 := ⟨k - 1, by omega⟩
  have hil : i < a.States.length := by omega
  have e1 : a.States.length - i = (a.States.length - (i + 1)) + 1 := by omega
  have hkl : i < (Qb1 a.States l).length := by rw [Cn]; exact hil
  obtain ⟨F', g1, g2, g3, g4⟩ := deal_l1 K hK (Yn K k) h hl hil F hFm (by omega) X hX (a.States.length - (i + 1)) F.length K 0 rfl (by omega) (Qmm _) (fun x hx => by rw [Qpk] at hx; cases hx)
  rw [Qmr] at g4
  rw [Yn]
  dsimp only
  rw [hcl, Qmk (by omega), cT, e1, Qnt, g4, ih k (i + 1) F' _ (by omega) (by omega) (by omega) (by rw [Qmc, Qmh]; omega) (by omega) g2, Qmi hkl, Lb hkl, W8, dealF_cons, g1, Qmd]
  rfl
theorem deal_ok {K : Nat} (hK : 1000 ≤ K) {a : Qc} (h : RQ a) {l : List Nat} (hl : Qce a l) : Wv K a (Z0 l) = some (Z0 (Qhy a.States l), (Qlm a.States l : Int)) := by
 have hn := h.n2
 have hcl : (Z0 l).length = a.States.length := by rw [Z0, Qmf]; exact hl.len
 have := deal_l0 K hK h hl a.States.length K 0 [] [] rfl (by omega) (Qmm _) rfl (Qmm _) (fun x hx => by cases hx)
 rw [Qmr, Qmu, Qmq, Qnj] at this
 rw [Wv, hcl, Z5 (by omega), Z5 (Zn.2 ⟨by simp only [maxLen]; omega, by omega⟩), Qml]
 exact this
theorem rblocks_l0 (K : Nat) (hK : 1000 ≤ K) {a : Qc} (h : RQ a) : ∀ (k' k : Nat) (l : List Nat) (many : Nat), k' ≤ k → Qce a l → many ≤ (W8 [] l).length → a.States.length < k' + many →
  Ue K k (Z0 l) (many : Int) a = some (Z0 (blkS a.States k' l many)) := by
 intro k'
 induction k' with
 | zero =>
  intro k l many _ h1 h2 h3
  have := (Qa0 h1.len).1
  have := Qk2 a.States l
  omega
 | succ k' ih =>
  intro k l many hk h1 h2 h3
  obtain ⟨k, rfl⟩ : ∃ q, k = q + 1 := ⟨k - 1, by omega⟩
  have hle := (Qa0 h1.len).1
  rw [Ue]
  dsimp only
  rw [deal_ok hK h h1, bS, blkS]
  dsimp only
  by_cases he : Qlm a.States l = many
  ·rw [if_pos he, he, Qnn, cT]
  ·rw [if_neg he, Qmt.2 (by omega), cF]
   exact ih k _ _ (by omega) (next_num h l) (by rw [Qk6]; exact Qms _) (by omega)
theorem rblocks_ok {K : Nat} (hK : 1000 ≤ K) {a : Qc} (h : Sg a) : Yv K a = some (Z0 (Lc a.States)) := by
 have hn := h.1.n2
 have := rblocks_l0 K hK h.1 (a.States.length + 1) K (List.replicate a.States.length 0) 0 (by omega) ⟨Qm2 .., fun x hx => by rw [(List.mem_replicate.1 hx).2]; omega⟩ (Qmm _) (by omega)
 rw [castL_repl] at this
 rw [Yv, h.ref (by omega), bS, Qm5, cF, Z5 (by omega), Z5 (Zn.2 ⟨by simp only [maxLen]; omega, by omega⟩), Qml]
 exact this
theorem rblocks_bad {a : Qc} {K : Nat} (h : Yj K a = some false) : Yv K a = some [] := by
 rw [Yv, h, bS, Qm4, cT]
end Go.Rv

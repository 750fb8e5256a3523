/- Trimming, plainly: the greatest of some numbers; rows of moves as one. -/
import Derived.Test.YtcmfaclkgdmpbaaGreatDoorRpT3
namespace Go.Rv
theorem max_l0 (K : Nat) (xs : List Int) (hx : xs.length ≤ 140737488355328) : ∀ (m k i : Nat) (a : Int), xs.length - i = m → m < k → Uf K k xs a (i : Int) = some ((xs.drop i).foldl max a) := by
 intro m
 induction m with
 | zero =>
  intro k i a hm hk
  obtain ⟨k, rfl⟩ := Qjj k (by omega)
  rw [Uf]
  dsimp only
  rw [Qfv (by omega), cF, Qf9 (by omega)]
  rfl
 | succ m ih =>
  intro k i a hm hk
  obtain ⟨k, rfl⟩ := Qjj k (by omega)
  have hi : i < xs.length := by omega
  rw [Uf]
  dsimp only
  rw [Qf0 (by omega), cT, Ze hi, bS, Bx (n := i) (by omega), ih k (i + 1) _ (by omega) (by omega), Qf2 hi, Qgx]
  congr 2
  split <;> omega
theorem max_eq (K : Nat) (xs : List Int) (h0 : 0 < xs.length) (hx : xs.length ≤ 140737488355328) (hK : xs.length < K) : ∃ m, Kk K xs = some m ∧ m ∈ xs ∧ ∀ x ∈ xs, x ≤ m := by
 have hf : ∀ (l : List Int) (a : Int), (l.foldl max a = a ∨ l.foldl max a ∈ l) ∧ a ≤ l.foldl max a ∧ ∀ x ∈ l, x ≤ l.foldl max a := by
  intro l
  induction l with
  | nil => intro a; exact ⟨.inl rfl, Int.le_refl _, fun x hx => by cases hx⟩
  | cons y l ih =>
   intro a
   obtain ⟨h1, h2, h3⟩ := ih (max a y)
   rw [Qgx]
   refine ⟨?_, by omega, fun x hx => ?_⟩
   ·rcases h1 with h1 | h1
    ·rw [h1]
     rcases Int.le_total a y with h | h
     ·rw [Int.max_eq_right h]; exact .inr Qga
     ·rw [Int.max_eq_left h]; exact .inl rfl
    ·exact .inr (Qf5 _ h1)
   ·rcases Qg1.1 hx with rfl | hx
    ·omega
    ·exact h3 x hx
 obtain ⟨x, l, rfl⟩ : ∃ x l, xs = x :: l := by
  cases xs with
  | nil => simp at h0
  | cons x l => exact ⟨x, l, rfl⟩
 obtain ⟨h1, h2, h3⟩ := hf l x
 refine ⟨l.foldl max x, ?_, ?_, fun y hy => ?_⟩
 ·rw [Kk, Qfv (by simp only [Qgc]; omega), cF]
  rw [show Xl (x :: l) 0 = some x from rfl, bS]
  have := max_l0 K (x :: l) hx ((x :: l).length - 1) K 1 x rfl (by omega)
  exact this
 ·rcases h1 with h1 | h1
  ·rw [h1]; exact Qga
  ·exact Qf5 _ h1
 ·rcases Qg1.1 hy with rfl | hy
  ·exact h2
  ·exact h3 y hy
theorem concat_l1 (K : Nat) (xs : List (List Qd)) (hx : xs.length ≤ 1000000) : ∀ (m k i : Nat) (acc : List Qd), xs.length - i = m → m < k → acc.length + (xs.drop i).flatten.length ≤ 1000000 → Xq K k xs (xs.length : Int) (i : Int) acc = some (acc ++ (xs.drop i).flatten) := by
 intro m
 induction m with
 | zero =>
  intro k i acc hm hk _
  obtain ⟨k, rfl⟩ := Qjj k (by omega)
  rw [Xq]
  dsimp only
  rw [Qfv (by omega), cF, Qf9 (by omega)]
  simp
 | succ m ih =>
  intro k i acc hm hk hl
  obtain ⟨k, rfl⟩ := Qjj k (by omega)
  have hi : i < xs.length := by omega
  rw [Qf2 hi, Qgh, Qfu] at hl
  rw [Xq]
  dsimp only
  rw [Qf0 (by omega), cT, Ze hi, bS, Z3 (Zl.2 ⟨by simp only [maxLen]; omega, by omega⟩), Bx (n := i) (by omega), ih k (i + 1) _ (by omega) (by omega) (by rw [Qfu]; omega), Qf2 hi, Qgh, Qfx]
theorem grow_move (K : Nat) (n : Nat) (h : n ≤ 1000000) : H7 K (n : Int) = some [] := by
 have e0 : IntKind.i64.wrap ((0 : Int) - 0) = 0 := by decide
 rw [H7, Qfv (by omega), cF, e0, w64 (by omega) (by omega)]
 by_cases hn : 0 < n
 ·rw [Qf0 (by omega), cT, Z3 (by omega), Z3 (Zl.2 ⟨by simp only [maxLen]; omega, by omega⟩), Z3 ⟨by omega, by simp⟩]
  rfl
 ·rw [Qfv (by omega), cF]
theorem concat_l0 (K : Nat) (xs : List (List Qd)) (hx : xs.length < K) (hx2 : xs.length ≤ 1000000) (hl : xs.flatten.length ≤ 1000000) : ∀ (m k i n : Nat), xs.length - i = m → m < k → n + (xs.drop i).flatten.length = xs.flatten.length → Y5 K k xs (n : Int) (xs.length : Int) (i : Int) = some xs.flatten := by
 intro m
 induction m with
 | zero =>
  intro k i n hm hk hn
  obtain ⟨k, rfl⟩ := Qjj k (by omega)
  rw [Y5]
  dsimp only
  rw [Qfv (by omega), cF, grow_move K n (by omega), bS]
  have := concat_l1 K xs hx2 xs.length K 0 [] rfl hx (by rw [Qgl, Qgu]; omega)
  rw [Qgl, Qf8] at this
  exact this
 | succ m ih =>
  intro k i n hm hk hn
  obtain ⟨k, rfl⟩ := Qjj k (by omega)
  have hi : i < xs.length := by omega
  rw [Qf2 hi, Qgh, Qfu] at hn
  have e1 : IntKind.i64.wrap ((n : Int) + (xs[i].length : Int)) = ((n + xs[i].length : Nat) : Int) := by rw [w64 (by omega) (by omega)]; omega
  rw [Y5]
  dsimp only
  rw [Qf0 (by omega), cT, Ze hi, bS, e1, Qfv (by omega), cF, Bx (n := i) (by omega), ih k (i + 1) _ (by omega) (by omega) (by omega)]
theorem moves_eq (K : Nat) (s : Qa) (h1 : s.Next.length < K) (h2 : s.Next.length ≤ 1000000) (h3 : s.Next.flatten.length ≤ 1000000) : Bz K s = some s.Next.flatten := by
 have := concat_l0 K s.Next h1 h2 h3 s.Next.length K 0 0 rfl h1 (by simp)
 rw [Bz, Gv, show Y5 K K s.Next 0 (s.Next.length : Int) 0 = some s.Next.flatten from this, bS]
end Go.Rv
namespace Go.Rv
def addF (i : Int) (F : List (List Int)) (m : Qd) : List (List Int) := if m.To ≥ 0 then F.set m.To.toNat ((F.getD m.To.toNat []) ++ [i]) else F
theorem addF_len (i : Int) (F : List (List Int)) (m : Qd) : (addF i F m).length = F.length := by
 rw [addF]; split
 ·rw [Qgz]
 ·rfl
theorem addF_rows {i : Int} {F : List (List Int)} {m : Qd} {c : Nat} (h : ∀ r ∈ F, r.length ≤ c) : ∀ r ∈ addF i F m, r.length ≤ c + 1 := by
 intro r hr
 rw [addF] at hr
 split at hr
 ·rcases List.mem_or_eq_of_mem_set hr with h1 | h1
  ·have := h r h1; omega
  ·rw [h1, Qfu, Qft]
   cases hq : F[m.To.toNat]? with
   | none => simp [List.getD, hq]
   | some q =>
    have := h q (List.mem_of_getElem? hq)
    simp only [List.getD, hq, Qhd]
    omega
 ·have := h r hr; omega
theorem live_l4 (K : Nat) (go : Qn → Int → Int → (List Bool) → (List (List Int)) → (List Int) → Option (List Bool)) (i : Int) (x : Qn) (a b : Int) (ms : List Qd) (out : List Bool) (todo : List Int) (hm : ms.length ≤ 1000000) (n : Nat) (hto : ∀ m ∈ ms, m.To < n) : ∀ (q k j c : Nat) (F : List (List Int)), ms.length - j = q → q < k → F.length = n → (∀ r ∈ F, r.length ≤ c) → c + (ms.length - j) ≤ 100000000 →
  Hk K go k i x a b ms (ms.length : Int) (j : Int) out F todo = go x a (IntKind.i64.wrap (b + 1)) out ((ms.drop j).foldl (addF i) F) todo := by
 intro q
 induction q with
 | zero =>
  intro k j c F hq hk hF hr hc
  obtain ⟨k, rfl⟩ := Qjj k (by omega)
  rw [Hk]
  dsimp only
  rw [Qfv (by omega), cF, Qf9 (by omega)]
  rfl
 | succ q ih =>
  intro k j c F hq hk hF hr hc
  obtain ⟨k, rfl⟩ := Qjj k (by omega)
  have hj : j < ms.length := by omega
  have ht := hto _ (Qfy hj)
  have hih := ih k (j + 1) (c + 1) (addF i F ms[j]) (by omega) (by omega) (by rw [addF_len]; exact hF) (addF_rows hr) (by omega)
  have hw := Bx (n := j) (by omega)
  have hlt : (j : Int) < (ms.length : Int) := by omega
  rw [Hk]
  dsimp only
  rw [Qf0 hlt, cT, Ze hj, bS, Qf2 hj, Qgx, ← hih]
  generalize ms[j] = m at *
  by_cases h0 : m.To ≥ 0
  ·obtain ⟨t, he⟩ : ∃ t : Nat, m.To = (t : Int) := ⟨m.To.toNat, by omega⟩
   have htl : t < F.length := by omega
   have hb := hr _ (Qfy htl)
   rw [Qf0 h0, cT, addF, if_pos h0, he, Ze htl, bS, Z3 (Zl.2 ⟨by simp only [maxLen, Qft]; omega, by simp only [Qft]; omega⟩), hw, Qf1, Q2 htl]
  ·rw [Qfv h0, cF, addF, if_neg h0, hw]
def Cc (s : Qa) : Bool := s.Rule.any (fun r => decide (r ≥ 0))
def S9 : List Qa → Int → List (List Int) → List (List Int)
 | [], _, F => F
 | s :: l, i, F => S9 l (i + 1) (s.Next.flatten.foldl (addF i) F)
def Qef : List Qa → Int → List Int
 | [], _ => []
 | s :: l, i => (if Cc s = true then [i] else []) ++ Qef l (i + 1)
theorem Qfd (i : Int) : ∀ (ms : List Qd) (F : List (List Int)), (ms.foldl (addF i) F).length = F.length := by
 intro ms
 induction ms with
 | nil => intro F; rfl
 | cons m ms ih => intro F; rw [Qgx, ih, addF_len]
theorem foldF_rows {i : Int} : ∀ (ms : List Qd) (F : List (List Int)) (c : Nat), (∀ r ∈ F, r.length ≤ c) → ∀ r ∈ ms.foldl (addF i) F, r.length ≤ c + ms.length := by
 intro ms
 induction ms with
 | nil => intro F c h; simpa using h
 | cons m ms ih =>
  intro F c h r hr
  have := ih (addF i F m) (c + 1) (addF_rows h) r hr
  rw [Qgc]; omega
theorem initT_len : ∀ (l : List Qa) (i : Int), (Qef l i).length ≤ l.length := by
 intro l
 induction l with
 | nil => intro i; simp [Qef]
 | cons s l ih =>
  intro i
  have := ih (i + 1)
  simp only [Qef, Qfu, Qgc]
  split <;> simp <;> omega
theorem hasRule_max {s : Qa} {m : Int} (h1 : m ∈ s.Rule) (h2 : ∀ x ∈ s.Rule, x ≤ m) : Cc s = decide (m ≥ 0) := by
 rw [Qh8, Cc, Qhk, Qhc]
 constructor
 ·rintro ⟨x, hx, h⟩
  have := h2 x hx
  have h' := of_decide_eq_true h
  omega
 ·intro h
  exact ⟨m, h1, Qf0 h⟩
structure LiveOk (K : Nat) (x : Qn) : Prop where
 k : 1000 ≤ K
 n : x.States.length < K ∧ x.States.length ≤ 256
 rule : ∀ s ∈ x.States, 0 < s.Rule.length ∧ s.Rule.length ≤ 27
 next : ∀ s ∈ x.States, s.Next.length ≤ 27 ∧ s.Next.flatten.length ≤ 6912 ∧ s.Next.flatten.length < K
 to : ∀ s ∈ x.States, ∀ m ∈ s.Next.flatten, m.To < x.States.length
theorem live_l0 (K : Nat) (x : Qn) (h : LiveOk K x) (out : List Bool) : ∀ (q k i c : Nat) (F : List (List Int)) (todo : List Int), x.States.length - i = q → q < k → i ≤ x.States.length → F.length = x.States.length → (∀ r ∈ F, r.length ≤ c) → c + 6912 * (x.States.length - i) ≤ 10000000 → todo.length ≤ i →
  V0 K k x (x.States.length : Int) (i : Int) out F todo = (Y4 K ⟨todo ++ Qef (x.States.drop i) (i : Int)⟩).bind fun v => Vz K K v.1 v.2.1 out (S9 (x.States.drop i) (i : Int) F) v.2.2.l := by
 intro q
 induction q with
 | zero =>
  intro k i c F todo hq hk hi hF hr hc ht
  obtain ⟨k, rfl⟩ := Qjj k (by omega)
  rw [V0]
  dsimp only
  rw [Qfv (by omega), cF, Qf9 (by omega), Qef, S9, Qgg]
 | succ q ih =>
  intro k i c F todo hq hk hi hF hr hc ht
  obtain ⟨k, rfl⟩ := Qjj k (by omega)
  have hil : i < x.States.length := by omega
  have hlt : (i : Int) < (x.States.length : Int) := by omega
  have hmem := Qfy hil
  obtain ⟨h1, h2⟩ := h.rule _ hmem
  obtain ⟨h3, h4, h5⟩ := h.next _ hmem
  have h6 := h.to _ hmem
  have hK := h.k
  have hn := h.n
  have hdrop := Qf2 hil
  have hw := Bx (n := i) (by omega)
  have hg := Ze hil
  generalize x.States[i] = s at *
  obtain ⟨m, e1, e2, e3⟩ := max_eq K s.Rule h1 (by omega) (by omega)
  have hj : ∀ todo', todo'.length ≤ i + 1 → Mb K (V0 K k) (i : Int) x (x.States.length : Int) (i : Int) out F todo' s.L s.R s.Rule s.Next = (Y4 K ⟨todo' ++ Qef (x.States.drop (i + 1)) ((i + 1 : Nat) : Int)⟩).bind fun v => Vz K K v.1 v.2.1 out (S9 (x.States.drop (i + 1)) ((i + 1 : Nat) : Int) (s.Next.flatten.foldl (addF (i : Int)) F)) v.2.2.l := fun todo' ht' => by
   have hl4 := live_l4 K (V0 K k) (i : Int) x (x.States.length : Int) (i : Int) s.Next.flatten out todo' (by omega) x.States.length h6 s.Next.flatten.length K 0 c F rfl h5 hF hr (by omega)
   rw [Qgl, hw] at hl4
   rw [Mb, show (⟨s.L, s.R, s.Rule, s.Next⟩ : Qa) = s from rfl, moves_eq K s (by omega) (by omega) (by omega), bS]
   refine Eq.trans hl4 ?_
   exact ih k (i + 1) (c + s.Next.flatten.length) _ todo' (by omega) (by omega) (by omega) (by rw [Qfd]; exact hF) (foldF_rows _ _ _ hr) (by omega) ht'
  rw [V0]
  dsimp only
  have ei : (i : Int) + 1 = ((i + 1 : Nat) : Int) := by omega
  rw [Qf0 hlt, cT, hg, bS, e1, bS, hdrop, Qef, S9, hasRule_max e2 e3, ei]
  by_cases hm : m ≥ 0
  ·rw [Qf0 hm, cT, Ue, Z3 (Zl.2 ⟨by simp only [maxLen, Qft]; omega, by simp only [Qft]; omega⟩), bS, if_pos rfl]
   dsimp only
   rw [hj (todo ++ [(i : Int)]) (by rw [Qfu, Qft]; omega), Qfx]
  ·rw [Qfv hm, cF, if_neg (by decide), Qf8]
   exact hj todo (by omega)
end Go.Rv
namespace Go.Rv
def leftW (F : List (List Int)) : List Bool → Nat → Nat
 | [], _ => 0
 | b :: l, i => (if b = true then 0 else (F.getD i []).length) + leftW F l (i + 1)
theorem leftW_set (F : List (List Int)) : ∀ (out : List Bool) (i j : Nat) (h : j < out.length), out[j] = false → leftW F (out.set j true) i + (F.getD (i + j) []).length = leftW F out i := by
 intro out
 induction out with
 | nil => intro i j h; simp at h
 | cons b out ih =>
  intro i j h hb
  cases j with
  | zero =>
   simp only [List.getElem_cons_zero] at hb
   subst hb
   simp only [Qiz, leftW, Qht]
   simp
   omega
  | succ j =>
   simp only [List.getElem_cons_succ] at hb
   have := ih (i + 1) j (by simpa using h) hb
   rw [show i + 1 + j = i + (j + 1) by omega] at this
   simp only [Qi0, leftW]
   omega
theorem pop_nil (K : Nat) : Y4 K ⟨[]⟩ = some (0, false, ⟨[]⟩) := rfl
theorem pop_snoc (K : Nat) (T : List Int) (p : Int) (h : T.length ≤ 100000000) : Y4 K ⟨T ++ [p]⟩ = some (p, true, ⟨T⟩) := by
 have e1 : IntKind.i64.wrap (((T ++ [p]).length : Int) - 1) = (T.length : Int) := by
  rw [Qfu, Qft, w64 (by omega) (by omega)]; omega
 have hl : T.length < (T ++ [p]).length := by rw [Qfu, Qft]; omega
 rw [Y4]
 dsimp only
 rw [e1, Qgd.2 (show ((T ++ [p]).length : Int) ≠ 0 by omega), cF, Ze hl, bS, Z3 ⟨by omega, by omega⟩, Qf1, List.take_left' rfl]
 congr 2
 simp
theorem live_l2 (K : Nat) (F : List (List Int)) (n : Nat) (hF : F.length = n) (hrng : ∀ r ∈ F, ∀ p ∈ r, 0 ≤ p ∧ p < n) (R : Nat → Prop) (hR : ∀ i, R i → ∀ p ∈ F.getD i [], R p.toNat) : ∀ (k : Nat) (out : List Bool) (T : List Int), out.length = n → (∀ p ∈ T, 0 ≤ p ∧ p < n ∧ R p.toNat) → (∀ i, out.getD i false = true → R i) →
  (∀ i, out.getD i false = true → ∀ p ∈ F.getD i [], out.getD p.toNat false = true ∨ p ∈ T) → leftW F out 0 + T.length < k → leftW F out 0 + T.length ≤ 10000000 →
  ∃ out', ((Y4 K ⟨T⟩).bind fun v => Vz K k v.1 v.2.1 out F v.2.2.l) = some out' ∧ out'.length = n ∧ (∀ i, out'.getD i false = true → R i) ∧ (∀ i, out'.getD i false = true → ∀ p ∈ F.getD i [], out'.getD p.toNat false = true) ∧ (∀ i, out.getD i false = true → out'.getD i false = true) ∧ ∀ p ∈ T, out'.getD p.toNat false = true := by
 intro k
 induction k with
 | zero => intro out T _ _ _ _ h; omega
 | succ k ih =>
  intro out T ho hT hout hcl hk hb
  rcases List.eq_nil_or_concat T with rfl | ⟨T', p, rfl⟩
  ·refine ⟨out, ?_, ho, hout, fun i hi p hp => ?_, fun i hi => hi, fun p hp => by cases hp⟩
   ·rw [pop_nil, bS, Vz]; rfl
   ·rcases hcl i hi p hp with h | h
    ·exact h
    ·cases h
  ·rw [List.concat_eq_append] at *
   rw [Qfu, Qft] at hk hb
   obtain ⟨h0, h1, h2⟩ := hT p (Qfz.2 (.inr (Qf3.2 rfl)))
   obtain ⟨q, rfl⟩ : ∃ q : Nat, p = (q : Int) := ⟨p.toNat, by omega⟩
   rw [Qf1] at h2
   have hq : q < out.length := by omega
   rw [pop_snoc K T' (q : Int) (by omega), bS, Vz]
   dsimp only
   rw [cT, Ze hq, bS]
   cases hv : out[q] with
   | true =>
    rw [Qg7, cF]
    have hgq : out.getD q false = true := by rw [Q2 hq, hv]
    obtain ⟨out', e, g1, g2, g3, g4, g5⟩ := ih out T' ho (fun p hp => hT p (Qfz.2 (.inl hp))) hout (fun i hi p hp => by
     rcases hcl i hi p hp with h | h
     ·exact .inl h
     ·rcases Qfz.1 h with h | h
      ·exact .inr h
      ·rw [Qf3.1 h, Qf1]; exact .inl hgq) (by omega) (by omega)
    refine ⟨out', e, g1, g2, g3, g4, fun p hp => ?_⟩
    rcases Qfz.1 hp with hp | hp
    ·exact g5 p hp
    ·rw [Qf3.1 hp, Qf1]; exact g4 q hgq
   | false =>
    have hqF : q < F.length := by omega
    have hlw := leftW_set F out 0 q hq hv
    rw [Qgq] at hlw
    have hfq : F.getD q [] = F[q] := Q2 hqF
    rw [hfq] at hlw
    rw [Qg2, cT, Ze hqF, bS, Ue]
    dsimp only
    rw [Z3 (Zl.2 ⟨by simp only [maxLen]; omega, by omega⟩), bS, Qf1]
    have hset : ∀ i, (out.set q true).getD i false = true ↔ i = q ∨ out.getD i false = true := fun i => by
     simp only [List.getD, List.getElem?_set]
     by_cases hi : q = i
     ·subst hi; simp [hq]
     ·simp [hi, Ne.symm hi]
    obtain ⟨out', e, g1, g2, g3, g4, g5⟩ := ih (out.set q true) (T' ++ F[q]) (by rw [Qgz]; exact ho) (fun p hp => by
      rcases Qfz.1 hp with hp | hp
      ·exact hT p (Qfz.2 (.inl hp))
      ·obtain ⟨a, b⟩ := hrng _ (Qfy hqF) p hp
       exact ⟨a, b, hR q h2 p (by rw [hfq]; exact hp)⟩)
     (fun i hi => by
      rcases (hset i).1 hi with rfl | hi
      ·exact h2
      ·exact hout i hi)
     (fun i hi p hp => by
      rcases (hset i).1 hi with rfl | hi
      ·rw [hfq] at hp; exact .inr (Qfz.2 (.inr hp))
      ·rcases hcl i hi p hp with h | h
       ·exact .inl ((hset _).2 (.inr h))
       ·rcases Qfz.1 h with h | h
        ·exact .inr (Qfz.2 (.inl h))
        ·rw [Qf3.1 h, Qf1]; exact .inl ((hset q).2 (.inl rfl)))
     (by rw [Qfu]; omega) (by rw [Qfu]; omega)
    refine ⟨out', e, g1, g2, g3, fun i hi => g4 i ((hset i).2 (.inr hi)), fun p hp => ?_⟩
    rcases Qfz.1 hp with hp | hp
    ·exact g5 p (Qfz.2 (.inl hp))
    ·rw [Qf3.1 hp, Qf1]; exact g4 q ((hset q).2 (.inl rfl))
end Go.Rv
namespace Go.Rv
theorem C4 {α : Type} [BEq α] [LawfulBEq α] : ∀ (U V : List α), U.Nodup → (∀ x ∈ U, x ∈ V) → U.length ≤ V.length := by
 intro U
 induction U with
 | nil => intro V _ _; exact Qf7 _
 | cons x U ih =>
  intro V hn hs
  obtain ⟨h1, h2⟩ := Qin.1 hn
  have hx := hs x Qga
  have h3 := ih (V.erase x) h2 fun y hy => (List.mem_erase_of_ne (fun e : y = x => h1 (e ▸ hy))).2 (hs y (Qf5 _ hy))
  have h4 := List.length_erase_of_mem hx
  have h5 := List.length_pos_of_mem hx
  rw [Qgc]
  omega
theorem sub_nodup {α : Type} [BEq α] [LawfulBEq α] : ∀ (V U : List α), U.Nodup → (∀ x ∈ U, x ∈ V) → V.length ≤ U.length → V.Nodup := by
 intro V
 induction V with
 | nil => intro U _ _ _; exact Qiw
 | cons y V ih =>
  intro U hn hs hl
  rw [Qgc] at hl
  have hy : y ∉ V := fun hy => by
   have := C4 U V hn fun x hx => by
    rcases Qg1.1 (hs x hx) with rfl | h
    ·exact hy
    ·exact h
   omega
  refine Qin.2 ⟨hy, ih (U.erase y) (hn.erase y) (fun x hx => ?_) ?_⟩
  ·obtain ⟨h1, h2⟩ := hn.mem_erase_iff.1 hx
   rcases Qg1.1 (hs x h2) with rfl | h
   ·exact absurd rfl h1
   ·exact h
  ·have h1 := List.length_erase (a := y) (l := U)
   by_cases h2 : y ∈ U
   ·rw [List.length_erase_of_mem h2]; omega
   ·rw [List.erase_of_not_mem h2]; omega
section
variable {κ : Type} [DecidableEq κ]
def Qcs (acc : List κ) (k : κ) : List κ := if k ∈ acc then acc else acc ++ [k]
def Wv (acc : List κ) : List κ → List κ
 | [] => acc
 | k :: l => Wv (Qcs acc k) l
def Nz (acc : List κ) : List κ → List Nat
 | [] => []
 | k :: l => (Qcs acc k).idxOf k :: Nz (Qcs acc k) l
theorem addK_mem {acc : List κ} {k x : κ} : x ∈ Qcs acc k ↔ x ∈ acc ∨ x = k := by
 rw [Qcs]
 split
 ·next h =>
  constructor
  ·exact .inl
  ·rintro (h1 | rfl)
   ·exact h1
   ·exact h
 ·rw [Qfz, Qf3]
theorem addK_self {acc : List κ} {k : κ} : k ∈ Qcs acc k := addK_mem.2 (.inr rfl)
theorem addK_nodup {acc : List κ} {k : κ} (h : acc.Nodup) : (Qcs acc k).Nodup := by
 rw [Qcs]
 split
 ·exact h
 ·next hk => exact Qhy.2 ⟨h, Qin.2 ⟨Qit, Qiw⟩, fun a ha b hb => by rw [Qf3.1 hb]; exact fun e => hk (e ▸ ha)⟩
theorem addK_idx {acc : List κ} {k x : κ} (h : x ∈ acc) : (Qcs acc k).idxOf x = acc.idxOf x := by
 rw [Qcs]
 split
 ·rfl
 ·rw [Qi4, if_pos h]
theorem En : ∀ (l acc : List κ) (x : κ), x ∈ Wv acc l ↔ x ∈ acc ∨ x ∈ l := by
 intro l
 induction l with
 | nil => intro acc x; simp [Wv]
 | cons k l ih => intro acc x; rw [Wv, ih, addK_mem, Qg1, or_assoc]
theorem Qev : ∀ (l acc : List κ), acc.Nodup → (Wv acc l).Nodup := by
 intro l
 induction l with
 | nil => intro acc h; exact h
 | cons k l ih => intro acc h; exact ih _ (addK_nodup h)
theorem uniqF_idx : ∀ (l acc : List κ) (x : κ), x ∈ acc → (Wv acc l).idxOf x = acc.idxOf x := by
 intro l
 induction l with
 | nil => intro acc x _; rfl
 | cons k l ih => intro acc x h; rw [Wv, ih _ _ (addK_mem.2 (.inl h)), addK_idx h]
theorem Qcl : ∀ (l acc : List κ), Nz acc l = l.map fun k => (Wv acc l).idxOf k := by
 intro l
 induction l with
 | nil => intro acc; rfl
 | cons k l ih =>
  intro acc
  rw [Nz, Qge, ih]
  show _ = (Wv (Qcs acc k) l).idxOf k :: _
  rw [uniqF_idx l (Qcs acc k) k addK_self]
  rfl
theorem dealF_len (l acc : List κ) : (Nz acc l).length = l.length := by rw [Qcl, Qfw]
theorem idx_inj {U : List κ} {a b : κ} (ha : a ∈ U) (hb : b ∈ U) (h : U.idxOf a = U.idxOf b) : a = b := by
 have h1 := Qg9.2 ha
 have h2 := Qg9.2 hb
 rw [← Qhq h1, ← Qhq h2]
 congr 1
theorem deal_same (l : List κ) {i j : Nat} (hi : i < l.length) (hj : j < l.length) : ((Nz [] l).getD i 0 = (Nz [] l).getD j 0) ↔ l[i] = l[j] := by
 have e : ∀ i, (h : i < l.length) → (Nz [] l).getD i 0 = (Wv [] l).idxOf l[i] := fun i h => by
  rw [Qcl]
  simp [List.getD, h]
 rw [e i hi, e j hj]
 constructor
 ·exact idx_inj ((En _ _ _).2 (.inr (Qfy hi))) ((En _ _ _).2 (.inr (Qfy hj)))
 ·intro h; rw [h]
theorem uniq_id : ∀ (l acc : List κ), (acc ++ l).Nodup → Wv acc l = acc ++ l := by
 intro l
 induction l with
 | nil => intro acc _; rw [Wv, Qgg]
 | cons k l ih =>
  intro acc h
  have hk : k ∉ acc := fun hk => by
   have := (Qhy.1 h).2.2 k hk k Qga
   exact this rfl
  rw [Wv, Qcs, if_neg hk, ih _ (by rw [Qfx]; exact h), Qfx]
  rfl
theorem deal_id (l : List κ) (h : l.Nodup) : Nz [] l = List.range l.length := by
 rw [Qcl, uniq_id l [] h, Qf8]
 refine Qi9 (by simp) fun i h1 h2 => ?_
 simp only [Qgt, Qig]
 rw [Qfw] at h1
 have h3 : l.idxOf l[i] < l.length := Qg9.2 (Qfy h1)
 exact (List.getElem_inj h).1 (Qhq h3)
end
theorem uniq_le {κ μ : Type} [DecidableEq κ] [DecidableEq μ] (l : List κ) (r : List μ) (hl : l.length = r.length) (h : ∀ i j, (hi : i < l.length) → (hj : j < l.length) → l[i] = l[j] → r[i]'(hl ▸ hi) = r[j]'(hl ▸ hj)) :
  (Wv [] r).length ≤ (Wv [] l).length ∧ ((Wv [] l).length ≤ (Wv [] r).length → ∀ i j, (hi : i < l.length) → (hj : j < l.length) → r[i]'(hl ▸ hi) = r[j]'(hl ▸ hj) → l[i] = l[j]) := by
 by_cases h0 : l.length = 0
 ·have e1 : l = [] := Qhr.1 h0
  have e2 : r = [] := Qhr.1 (by omega)
  subst e1 e2
  exact ⟨Qf6 _, fun _ i j hi => absurd hi (Qhj _)⟩
 have hr0 : 0 < r.length := by omega
 let f : κ → μ := fun k => r.getD (l.idxOf k) r[0]
 have hf : ∀ i, (hi : i < l.length) → f l[i] = r[i]'(hl ▸ hi) := fun i hi => by
  have h1 : l.idxOf l[i] < l.length := Qg9.2 (Qfy hi)
  show r.getD (l.idxOf l[i]) r[0] = _
  rw [Q2 (hl ▸ h1)]
  exact h _ _ h1 hi (Qhq h1)
 have hsub : ∀ x ∈ Wv [] r, x ∈ (Wv [] l).map f := fun x hx => by
  rcases (En _ _ _).1 hx with h1 | h1
  ·cases h1
  ·obtain ⟨i, hi, rfl⟩ := Qgp h1
   exact Qgf.2 ⟨l[i]'(hl ▸ hi), (En _ _ _).2 (.inr (Qfy _)), hf i (hl ▸ hi)⟩
 have hnd := Qev r [] Qiw
 have h1 := C4 _ _ hnd hsub
 rw [Qfw] at h1
 refine ⟨h1, fun h2 i j hi hj he => ?_⟩
 have h3 := sub_nodup _ _ hnd hsub (by rw [Qfw]; exact h2)
 rw [← hf i hi, ← hf j hj] at he
 have hu : ∀ i, (hi : i < l.length) → ∃ q, ∃ (h : q < (Wv [] l).length), (Wv [] l)[q] = l[i] := fun i hi => by
  have := (En l [] l[i]).2 (.inr (Qfy hi))
  obtain ⟨q, hq, e⟩ := Qgp this
  exact ⟨q, hq, e⟩
 obtain ⟨p, hp, ep⟩ := hu i hi
 obtain ⟨q, hq, eq⟩ := hu j hj
 rw [← ep, ← eq] at he ⊢
 have : p = q := (List.getElem_inj (i := p) (j := q) (h₀ := by rw [Qfw]; exact hp) (h₁ := by rw [Qfw]; exact hq) h3).1 (by rw [Qgt, Qgt]; exact he)
 subst this
 rfl
end Go.Rv
namespace Go.Rv
def sE : Qa := ⟨[], [], [], []⟩
def stA (S : List Qa) (i : Nat) : Qa := S.getD i sE
def mvs (S : List Qa) (i : Nat) : List Qd := (stA S i).Next.flatten
theorem Ua {S : List Qa} {i : Nat} (h : i < S.length) : stA S i = S[i] := Q2 h
abbrev KM := Option (Nat × List Int)
abbrev KS := Option (Nat × List Int × List Int × List KM)
instance : DecidableEq KM := inferInstance
instance : DecidableEq (List KM) := inferInstance
instance : DecidableEq (List Int × List KM) := inferInstance
instance : DecidableEq (List Int × List Int × List KM) := inferInstance
instance : DecidableEq (Nat × List Int × List Int × List KM) := inferInstance
instance : DecidableEq KS := inferInstance
def keyM (l : List Nat) (m : Qd) : KM := if m.To < 0 then none else some (l.getD m.To.toNat 0, m.Ops)
def keyS (S : List Qa) (l : List Nat) (i : Nat) : KS :=
 if i = 0 then none else some (l.getD i 0, (stA S i).R, (stA S i).Rule, (mvs S i).map (keyM l))
def mSim (E : Nat → Nat → Prop) (m n : Qd) : Prop := (m.To < 0 ∧ n.To < 0) ∨ (0 ≤ m.To ∧ 0 ≤ n.To ∧ m.Ops = n.Ops ∧ E m.To.toNat n.To.toNat)
def bSim (S : List Qa) (E : Nat → Nat → Prop) (i j : Nat) : Prop :=
 (i = 0 ∧ j = 0) ∨ (0 < i ∧ 0 < j ∧ (stA S i).R = (stA S j).R ∧ (stA S i).Rule = (stA S j).Rule ∧ (mvs S i).length = (mvs S j).length ∧ ∀ k, (h1 : k < (mvs S i).length) → (h2 : k < (mvs S j).length) → mSim E (mvs S i)[k] (mvs S j)[k])
def eqL (l : List Nat) (a b : Nat) : Prop := l.getD a 0 = l.getD b 0
theorem mSim_mono {E F : Nat → Nat → Prop} {m n : Qd} (h : mSim E m n) (hf : 0 ≤ m.To → 0 ≤ n.To → E m.To.toNat n.To.toNat → F m.To.toNat n.To.toNat) : mSim F m n := by
 rcases h with h | ⟨h1, h2, h3, h4⟩
 ·exact .inl h
 ·exact .inr ⟨h1, h2, h3, hf h1 h2 h4⟩
theorem bSim_mono {S : List Qa} {E F : Nat → Nat → Prop} {i j : Nat} (h : bSim S E i j) (hf : ∀ m ∈ mvs S i, ∀ n ∈ mvs S j, 0 ≤ m.To → 0 ≤ n.To → E m.To.toNat n.To.toNat → F m.To.toNat n.To.toNat) : bSim S F i j := by
 rcases h with h | ⟨h1, h2, h3, h4, h5, h6⟩
 ·exact .inl h
 ·exact .inr ⟨h1, h2, h3, h4, h5, fun k a b => mSim_mono (h6 k a b) (hf _ (Qfy a) _ (Qfy b))⟩
theorem Qda {l : List Nat} {m n : Qd} : keyM l m = keyM l n ↔ mSim (eqL l) m n := by
 rw [keyM, keyM, mSim, eqL]
 by_cases h1 : m.To < 0 <;> by_cases h2 : n.To < 0
 ·simp [h1, h2]
 ·rw [if_pos h1, if_neg h2]; constructor
  ·intro h; cases h
  ·rintro (h | h) <;> omega
 ·rw [if_neg h1, if_pos h2]; constructor
  ·intro h; cases h
  ·rintro (h | h) <;> omega
 ·rw [if_neg h1, if_neg h2]
  simp only [Qgk, Qf4]
  constructor
  ·rintro ⟨a, b⟩; exact .inr ⟨by omega, by omega, b, a⟩
  ·rintro (h | h)
   ·omega
   ·exact ⟨h.2.2.2, h.2.2.1⟩
theorem keyS_eq {S : List Qa} {l : List Nat} {i j : Nat} : keyS S l i = keyS S l j ↔ (i = 0 ∧ j = 0) ∨ (0 < i ∧ 0 < j ∧ eqL l i j ∧ bSim S (eqL l) i j) := by
 rw [keyS, keyS]
 by_cases h1 : i = 0 <;> by_cases h2 : j = 0
 ·simp [h1, h2]
 ·rw [if_pos h1, if_neg h2]; constructor
  ·intro h; cases h
  ·rintro (h | h) <;> omega
 ·rw [if_neg h1, if_pos h2]; constructor
  ·intro h; cases h
  ·rintro (h | h) <;> omega
 ·rw [if_neg h1, if_neg h2]
  simp only [Qgk, Qf4]
  constructor
  ·rintro ⟨a, b, c, d⟩
   have hl : (mvs S i).length = (mvs S j).length := by have := congrArg List.length d; simpa using this
   refine .inr ⟨by omega, by omega, a, .inr ⟨by omega, by omega, b, c, hl, fun k k1 k2 => Qda.1 ?_⟩⟩
   have := congrArg (fun q => q[k]?) d
   simpa [k1, k2] using this
  ·rintro (h | ⟨_, _, a, h⟩)
   ·omega
   ·rcases h with h | ⟨_, _, b, c, hl, d⟩
    ·omega
    ·refine ⟨a, b, c, Qi9 (by simpa using hl) fun k k1 k2 => ?_⟩
     rw [Qgt, Qgt]
     exact Qda.2 (d k _ _)
def Qbn (S : List Qa) (l : List Nat) := (List.range S.length).map (keyS S l)
def Qce (S : List Qa) (l : List Nat) : List Nat := Nz [] (Qbn S l)
def manyB (S : List Qa) (l : List Nat) : Nat := (Wv [] (Qbn S l)).length
def blkS (S : List Qa) : Nat → List Nat → Nat → List Nat
 | 0, l, _ => l
 | k + 1, l, many => if manyB S l = many then Qce S l else blkS S k (Qce S l) (manyB S l)
theorem Cx (S : List Qa) (l : List Nat) : (Qbn S l).length = S.length := by rw [Qbn, Qfw, Qgi]
theorem Gg {S : List Qa} {l : List Nat} {i : Nat} (h : i < (Qbn S l).length) : (Qbn S l)[i] = keyS S l i := by
 simp only [Qbn, Qgt, Qig]
theorem Qe6 (S : List Qa) (l : List Nat) : (Qce S l).length = S.length := by rw [Qce, dealF_len, Cx]
theorem Tq {S : List Qa} {l : List Nat} {i j : Nat} (hi : i < S.length) (hj : j < S.length) : eqL (Qce S l) i j ↔ keyS S l i = keyS S l j := by
 have := deal_same (Qbn S l) (i := i) (j := j) (by rw [Cx]; exact hi) (by rw [Cx]; exact hj)
 rw [Gg, Gg] at this
 exact this
theorem manyB_le (S : List Qa) (l : List Nat) : manyB S l ≤ S.length := by
 have := C4 (Wv [] (Qbn S l)) (Qbn S l) (Qev _ _ Qiw) fun x hx => by
  rcases (En _ _ _).1 hx with h | h
  ·cases h
  ·exact h
 rw [Cx] at this
 exact this
theorem keyS_of {S : List Qa} {l : List Nat} {i j : Nat} (h : keyS S l i = keyS S l j) : eqL l i j := by
 rcases keyS_eq.1 h with ⟨rfl, rfl⟩ | h
 ·rfl
 ·exact h.2.2.1
theorem Qcf {S : List Qa} {l : List Nat} (hl : l.length = S.length) : (Wv [] l).length ≤ manyB S l ∧ (manyB S l ≤ (Wv [] l).length → ∀ i j, i < S.length → j < S.length → eqL l i j → keyS S l i = keyS S l j) := by
 have hk := Cx S l
 obtain ⟨h1, h2⟩ := uniq_le (Qbn S l) l (by rw [hk, hl]) fun i j hi hj h => by
  rw [Gg, Gg] at h
  have := keyS_of h
  rw [eqL, Q2 (by omega), Q2 (by omega)] at this
  exact this
 refine ⟨h1, fun h3 i j hi hj h => ?_⟩
 have := h2 h3 i j (by omega) (by omega) (by rw [eqL, Q2 (by omega), Q2 (by omega)] at h; exact h)
 rw [Gg, Gg] at this
 exact this
theorem uniq_next (S : List Qa) (l : List Nat) : (Wv [] (Qce S l)).length = manyB S l := by
 have hk := Cx S l
 have hn := Qe6 S l
 refine Nat.le_antisymm (uniq_le (Qbn S l) (Qce S l) (by rw [hk, hn]) fun i j hi hj h => ?_).1 (uniq_le (Qce S l) (Qbn S l) (by rw [hk, hn]) fun i j hi hj h => ?_).1
 ·rw [Gg, Gg] at h
  have := (Tq (by omega) (by omega)).2 h
  rw [eqL, Q2 (by omega), Q2 (by omega)] at this
  exact this
 ·rw [Gg, Gg]
  refine (Tq (by omega) (by omega)).1 ?_
  rw [eqL, Q2 (by omega), Q2 (by omega)]
  exact h
structure Blk (S : List Qa) (l : List Nat) : Prop where
 len : l.length = S.length
 sim : ∀ i j, i < S.length → j < S.length → eqL l i j → bSim S (eqL l) i j
 big : ∀ E : Nat → Nat → Prop, (∀ i j, E i j → i < S.length ∧ j < S.length ∧ bSim S E i j) → ∀ i j, E i j → eqL l i j
 own : (∀ i j, i < S.length → j < S.length → eqL l i j → i = j) → l = List.range S.length
theorem blk_step {S : List Qa} {l : List Nat} (hl : l.length = S.length) (E : Nat → Nat → Prop) (hE : ∀ i j, E i j → i < S.length ∧ j < S.length ∧ bSim S E i j) (h : ∀ i j, E i j → eqL l i j) : ∀ i j, E i j → eqL (Qce S l) i j := fun i j hij => by
 obtain ⟨hi, hj, hs⟩ := hE i j hij
 refine (Tq hi hj).2 (keyS_eq.2 ?_)
 by_cases h0 : i = 0 ∧ j = 0
 ·exact .inl h0
 ·have h1 : 0 < i ∧ 0 < j := by
   rcases hs with h' | h'
   ·exact absurd h' h0
   ·exact ⟨h'.1, h'.2.1⟩
  exact .inr ⟨h1.1, h1.2, h i j hij, bSim_mono hs fun _ _ _ _ _ _ hh => h _ _ hh⟩
theorem blk_spec (S : List Qa) (hT : ∀ i, i < S.length → ∀ m ∈ mvs S i, m.To < S.length) : ∀ (k : Nat) (l : List Nat) (many : Nat), l.length = S.length → many ≤ (Wv [] l).length → S.length < k + many → (∀ E : Nat → Nat → Prop, (∀ i j, E i j → i < S.length ∧ j < S.length ∧ bSim S E i j) → ∀ i j, E i j → eqL l i j) → Blk S (blkS S k l many) := by
 intro k
 induction k with
 | zero =>
  intro l many h1 h2 h3
  have := (Qcf h1).1
  have := manyB_le S l
  omega
 | succ k ih =>
  intro l many h1 h2 h3 h4
  have hle := Qcf h1
  have hnx := Qe6 S l
  have hbig : ∀ E : Nat → Nat → Prop, (∀ i j, E i j → i < S.length ∧ j < S.length ∧ bSim S E i j) → ∀ i j, E i j → eqL (Qce S l) i j := fun E hE => blk_step h1 E hE (h4 E hE)
  rw [blkS]
  split
  ·next hm =>
   have hst := hle.2 (by omega)
   refine ⟨hnx, fun i j hi hj h => ?_, hbig, fun h => ?_⟩
   ·have hk := (Tq hi hj).1 h
    rcases keyS_eq.1 hk with hk | ⟨_, _, _, hk⟩
    ·exact .inl hk
    ·rcases hk with hk | ⟨a, b, c, d, e, f⟩
     ·exact .inl hk
     ·refine .inr ⟨a, b, c, d, e, fun q q1 q2 => ?_⟩
      have := f q q1 q2
      rw [← Qda] at this ⊢
      rcases Qda.1 this with h' | ⟨g1, g2, g3, g4⟩
      ·exact Qda.2 (.inl h')
      ·refine Qda.2 (.inr ⟨g1, g2, g3, ?_⟩)
       have b1 := hT i hi _ (Qfy q1)
       have b2 := hT j hj _ (Qfy q2)
       exact (Tq (by omega) (by omega)).2 (hst _ _ (by omega) (by omega) g4)
   ·rw [Qce, deal_id, Cx]
    refine Qij.2 fun i j hi hj hij hne => ?_
    rw [Gg, Gg] at hne
    rw [Cx] at hi hj
    have := h i j hi hj ((Tq hi hj).2 hne)
    omega
  ·next hm =>
   exact ih _ _ hnx (by rw [uniq_next]; exact Qf6 _) (by omega) hbig
end Go.Rv

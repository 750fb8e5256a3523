/- Automata, plainly: what both layers' questions 'may it be so?' answer. -/
import Derived.Test.YtcmfaclkgdmpbaaGreatDoorRgP
import Derived.KernelRfl
namespace Go.Rv
theorem bS {α β : Type} (a : α) (f : α → Option β) : (some a).bind f = f a := rfl
theorem cT {α : Type} (a b : α) : (bif true then a else b) = a := rfl
theorem cF {α : Type} (a b : α) : (bif false then a else b) = b := rfl
theorem Z4 {β : Type} {p : Prop} [Decidable p] {f : Unit → Option β} (h : p) : (ck p).bind f = f () := by simp [ck, h]
theorem Q3 {α : Type} {l : List α} {i : Nat} (h : i < l.length) : Ys l (i : Int) = some l[i] := by simp [Ys, h]
theorem w64 {n : Int} (h0 : -9223372036854775808 ≤ n) (h1 : n < 9223372036854775808) : IntKind.i64.wrap n = n := by rw [IntKind.wrap_i64]; omega
theorem Mf {n : Nat} (h : n < 9223372036854775807) : IntKind.i64.wrap ((n : Int) + 1) = ((n + 1 : Nat) : Int) := by rw [w64 (by omega) (by omega)]; omega
theorem Dl {i n : Nat} (h : i < n) : (decide ((i : Int) < (n : Int))) = true := by simp; exact h
theorem Kw {i n : Nat} (h : n ≤ i) : (decide ((i : Int) < (n : Int))) = false := by simp; exact h
def Rl (below : Int) : Int → List Int → Bool
 | _, [] => true
 | last, n :: l => !(decide (n ≤ last)) && (!(decide (n ≥ below)) && Rl below n l)
def Fm (l : List Int) (below : Int) : Bool := Rl below (-1) l
theorem Eu {below : Int} : ∀ (l : List Int) (last : Int), -1 ≤ last → Rl below last l = true → (l.length : Int) ≤ below - last - 1 ∨ l = [] := by
 intro l
 induction l with
 | nil => intro last _ _; exact .inr rfl
 | cons n l ih =>
  intro last h0 h
  simp only [Rl, Qlz, Bool.not_eq_true', decide_eq_false_iff_not] at h
  obtain ⟨h1, h2, h3⟩ := h
  refine .inl ?_
  rcases ih n (by omega) h3 with h4 | h4
  ·simp only [Qle]; omega
  ·subst h4; simp only [Qle, Qlu]; omega
theorem autoRises_l0 (K : Nat) (xs : List Int) (b : Int) (hl : xs.length ≤ 9223372036854775807) : ∀ (m k i : Nat) (last : Int), xs.length - i = m → i ≤ xs.length → m < k → Lm K k b last xs (xs.length : Int) (i : Int) = some (Rl b last (xs.drop i)) := by
 intro m
 induction m with
 | zero =>
  intro k i last hm hi hk
  obtain ⟨k, rfl⟩ := Qoe k (by omega)
  have hi' : i = xs.length := by omega
  subst hi'
  rw [Lm]
  simp only [Kw (Qk9 _), cF, List.drop_length, Rl]
 | succ m ih =>
  intro k i last hm hi hk
  obtain ⟨k, rfl⟩ := Qoe k (by omega)
  have hlt : i < xs.length := by omega
  rw [Lm, Qk4 hlt]
  simp only [Dl hlt, cT, Q3 hlt, bS, Rl, Dm, Mf (n := i) (by omega)]
  cases decide (xs[i] ≤ last) with
  | true => simp
  | false =>
   cases decide (xs[i] ≥ b) with
   | true => simp
   | false => simpa using ih k (i + 1) xs[i] (by omega) (by omega) (by omega)
theorem autoRises (K : Nat) (xs : List Int) (b : Int) (hl : xs.length ≤ 9223372036854775807) (hK : xs.length < K) : N3 K xs b = some (Fm xs b) := by
 have := autoRises_l0 K xs b hl xs.length K 0 (-1) (by omega) (by omega) hK
 rw [N3]
 exact this
theorem refRises_l0 (K : Nat) (xs : List Int) (b : Int) (hl : xs.length ≤ 9223372036854775807) : ∀ (m k i : Nat) (last : Int), xs.length - i = m → i ≤ xs.length → m < k → (i = 0 → last = -1) → (∀ h : 0 < i, ∀ h2 : i ≤ xs.length, last = xs[i - 1] ∧ 0 ≤ last) → Yv K k xs b (i : Int) = some (Rl b last (xs.drop i)) := by
 intro m
 induction m with
 | zero =>
  intro k i last hm hi hk h0 h1
  obtain ⟨k, rfl⟩ := Qoe k (by omega)
  have hi' : i = xs.length := by omega
  subst hi'
  rw [Yv]
  simp only [Kw (Qk9 _), cF, List.drop_length, Rl]
 | succ m ih =>
  intro k i last hm hi hk h0 h1
  obtain ⟨k, rfl⟩ := Qoe k (by omega)
  have hlt : i < xs.length := by omega
  rw [Yv, Qk4 hlt]
  simp only [Dl hlt, cT, Q3 hlt, bS, Rl, Vu, Mf (n := i) (by omega)]
  by_cases hneg : xs[i] < 0
  ·have e1 : decide (xs[i] < 0) = true := by simp [hneg]
   have e2 : decide (xs[i] ≤ last) = true := by
    rcases Qns i with hz | hz
    ·rw [h0 hz]; simp; omega
    ·have := (h1 hz hi).2; simp; omega
   simp [e1, e2]
  ·have e1 : decide (xs[i] < 0) = false := by simp; omega
   simp only [e1, cF]
   by_cases hge : xs[i] ≥ b
   ·have e3 : decide (xs[i] ≥ b) = true := by simp [hge]
    simp [e3]
   ·have e3 : decide (xs[i] ≥ b) = false := by simp; omega
    simp only [e3, cF, Qlx, Qlh]
    rcases Qns i with hz | hz
    ·have e4 : decide ((i : Int) > 0) = false := by simp [hz]
     have e5 : decide (xs[i] ≤ last) = false := by rw [h0 hz]; simp; omega
     simp only [e4, cF, e5, Qlx, Qlh]
     exact ih k (i + 1) xs[i] (by omega) (by omega) (by omega) (by omega) (fun _ _ => ⟨rfl, by omega⟩)
    ·have e4 : decide ((i : Int) > 0) = true := by simp; omega
     have e6 : IntKind.i64.wrap ((i : Int) - 1) = ((i - 1 : Nat) : Int) := by rw [w64 (by omega) (by omega)]; omega
     simp only [e4, cT, e6, Q3 (show i - 1 < xs.length by omega), bS]
     rw [← (h1 hz hi).1]
     by_cases hle : xs[i] ≤ last
     ·have e7 : decide (last ≥ xs[i]) = true := by simp [hle]
      have e8 : decide (xs[i] ≤ last) = true := by simp [hle]
      simp [e7, e8]
     ·have e7 : decide (last ≥ xs[i]) = false := by simp; omega
      have e8 : decide (xs[i] ≤ last) = false := by simp; omega
      simp only [e7, cF, e8, Qlx, Qlh]
      exact ih k (i + 1) xs[i] (by omega) (by omega) (by omega) (by omega) (fun _ _ => ⟨rfl, by omega⟩)
theorem refRises (K : Nat) (xs : List Int) (b : Int) (hl : xs.length ≤ 9223372036854775807) (hK : xs.length < K) : Wf K xs b = some (Fm xs b) := by
 have := refRises_l0 K xs b hl xs.length K 0 (-1) (by omega) (by omega) hK (fun _ => rfl) (fun h => by omega)
 rw [Wf]
 exact this
def V5 (n : Int) : Int := if n = 0 then 1 else if n = 1 then 3 else if n = 2 then 9 else if n = 3 then 27 else 0
theorem autoCodes (K : Nat) (hK : 4 ≤ K) (n : Nat) : N4 K (n : Int) = some (V5 n) := by
 obtain ⟨K, rfl⟩ : ∃ k', K = k' + 4 := ⟨K - 4, by omega⟩
 by_cases h : n ≤ 3
 ·have : n = 0 ∨ n = 1 ∨ n = 2 ∨ n = 3 := by omega
  rcases this with rfl | rfl | rfl | rfl <;> simp [N4, Do, V5, IntKind.wrap_i64]
 ·have e1 : decide ((n : Int) < 0) = false := Qkx (by omega)
  have e2 : decide ((n : Int) > 3) = true := by simp; omega
  have e3 : V5 n = 0 := by simp only [V5]; (repeat rw [if_neg (by omega)])
  simp only [N4, e1, e2, cF, cT, Dp, e3]
theorem refCodes (K : Nat) (hK : 4 ≤ K) (n : Nat) : Je K (n : Int) = some (V5 n) := by
 obtain ⟨K, rfl⟩ : ∃ k', K = k' + 4 := ⟨K - 4, by omega⟩
 by_cases h : n ≤ 3
 ·have : n = 0 ∨ n = 1 ∨ n = 2 ∨ n = 3 := by omega
  rcases this with rfl | rfl | rfl | rfl <;> simp [Je, Jz, V5, IntKind.wrap_i64]
 ·have e1 : decide ((n : Int) < 0) = false := Qkx (by omega)
  have e2 : decide ((n : Int) > 3) = true := by simp; omega
  have e3 : V5 n = 0 := by simp only [V5]; (repeat rw [if_neg (by omega)])
  simp only [Je, e1, e2, cF, cT, J0, e3]
theorem refIn_l0 (K : Nat) (xs : List Int) (v : Int) (hl : xs.length ≤ 9223372036854775807) : ∀ (m k i : Nat), xs.length - i = m → i ≤ xs.length → m < k → Vj K k xs v (i : Int) = some ((xs.drop i).contains v) := by
 intro m
 induction m with
 | zero =>
  intro k i hm hi hk
  obtain ⟨k, rfl⟩ := Qoe k (by omega)
  have hi' : i = xs.length := by omega
  subst hi'
  rw [Vj]
  simp only [Kw (Qk9 _), cF, List.drop_length, List.contains_nil]
 | succ m ih =>
  intro k i hm hi hk
  obtain ⟨k, rfl⟩ := Qoe k (by omega)
  have hlt : i < xs.length := by omega
  rw [Vj, Qk4 hlt]
  simp only [Dl hlt, cT, Q3 hlt, bS, Mf (n := i) (by omega), Qm1]
  by_cases h : xs[i] = v
  ·simp [h]
  ·have e1 : (xs[i] == v) = false := by simp [h]
   have e2 : (v == xs[i]) = false := by simp; exact fun h' => h h'.symm
   simp only [e1, e2, cF, Qm4]
   exact ih k (i + 1) (by omega) (by omega) (by omega)
theorem refIn (K : Nat) (xs : List Int) (v : Int) (hl : xs.length ≤ 9223372036854775807) (hK : xs.length < K) : Wc K xs v = some (xs.contains v) := by
 have := refIn_l0 K xs v hl xs.length K 0 (by omega) (by omega) hK
 rw [Wc]
 exact this
theorem slIndex_l0 (K : Nat) (xs : List Int) (v : Int) (hl : xs.length ≤ 9223372036854775807) : ∀ (m k i : Nat), xs.length - i = m → i ≤ xs.length → m < k → ∃ r, Uc K k xs v (xs.length : Int) (i : Int) = some r ∧ decide (r ≥ 0) = (xs.drop i).contains v := by
 intro m
 induction m with
 | zero =>
  intro k i hm hi hk
  obtain ⟨k, rfl⟩ := Qoe k (by omega)
  have hi' : i = xs.length := by omega
  subst hi'
  rw [Uc]
  exact ⟨-1, by simp only [Kw (Qk9 _), cF], by simp⟩
 | succ m ih =>
  intro k i hm hi hk
  obtain ⟨k, rfl⟩ := Qoe k (by omega)
  have hlt : i < xs.length := by omega
  rw [Uc, Qk4 hlt]
  simp only [Dl hlt, cT, Q3 hlt, bS, Mf (n := i) (by omega), Qm1]
  by_cases h : v = xs[i]
  ·refine ⟨i, by simp [h], by simp [h]⟩
  ·have e2 : (v == xs[i]) = false := by simp [h]
   obtain ⟨r, h1, h2⟩ := ih k (i + 1) (by omega) (by omega) (by omega)
   exact ⟨r, by simp only [e2, cF]; exact h1, by simp only [e2, Qm4]; exact h2⟩
theorem slContains (K : Nat) (xs : List Int) (v : Int) (hl : xs.length ≤ 9223372036854775807) (hK : xs.length < K) : Wp K xs v = some (xs.contains v) := by
 obtain ⟨r, h1, h2⟩ := slIndex_l0 K xs v hl xs.length K 0 (by omega) (by omega) hK
 rw [Qk6] at h1
 rw [Wp, Bv, h1]
 simpa using h2
def Oh (a : Zp) : Nat → Nat → Int → Int → Bool
 | 0, _, n, many => n == many
 | m + 1, i, n, many => if a.f i > n then false else if a.f i = n then Oh a m (i + 1) (n + 1) many else Oh a m (i + 1) n many
def Qix (x : Q8) : Bool := Oh x.Of 256 0 0 x.Many
theorem splitF_many (a : Zp) : ∀ (m i : Nat) (n many : Int), Oh a m i n many = true → many ≤ n + m := by
 intro m
 induction m with
 | zero => intro i n many h; simp [Oh] at h; omega
 | succ m ih =>
  intro i n many h
  simp only [Oh] at h
  split at h
  ·cases h
  ·split at h
   ·have := ih _ _ _ h; omega
   ·have := ih _ _ _ h; omega
theorem autoSplit_l0 (K : Nat) (a : Q8) (hb : ∀ i, i < 256 → 0 ≤ a.Of.f i ∧ a.Of.f i < 256) : ∀ (m k i : Nat) (n : Int), 256 - i = m → i ≤ 256 → m < k → 0 ≤ n → n ≤ i → Wb K k n a (i : Int) = some (Oh a.Of m i n a.Many) := by
 intro m
 induction m with
 | zero =>
  intro k i n hm hi hk h0 h1
  obtain ⟨k, rfl⟩ := Qoe k (by omega)
  have hi' : i = 256 := by omega
  subst hi'
  rw [Wb]
  simp [Oh]
 | succ m ih =>
  intro k i n hm hi hk h0 h1
  obtain ⟨k, rfl⟩ := Qoe k (by omega)
  have hlt : i < 256 := by omega
  obtain ⟨b0, b1⟩ := hb i hlt
  have hg : IntKind.i64.wrap (Zp.get a.Of (i : Int)) = a.Of.f i := by
   simp only [Zp.get, Qk5]
   exact w64 (by omega) (by omega)
  have e0 : decide ((i : Int) < 256) = true := by simp; omega
  have e9 : IntKind.i64.wrap (n + 1) = n + 1 := w64 (by omega) (by omega)
  rw [Wb]
  simp only [e0, cT, Z4 (show 0 ≤ (i : Int) ∧ (i : Int) < 256 by omega), hg, Oh, Mf (n := i) (by omega), e9]
  by_cases h2 : a.Of.f i > n
  ·simp [h2]
  ·have e1 : decide (a.Of.f i > n) = false := by simp; omega
   simp only [e1, cF, if_neg h2]
   by_cases h3 : a.Of.f i = n
   ·have e2 : (a.Of.f i == n) = true := by simp [h3]
    simp only [e2, cT, if_pos h3]
    exact ih k (i + 1) (n + 1) (by omega) (by omega) (by omega) (by omega) (by omega)
   ·have e2 : (a.Of.f i == n) = false := by simp [h3]
    simp only [e2, cF, if_neg h3]
    exact ih k (i + 1) n (by omega) (by omega) (by omega) (by omega) (by omega)
theorem refSplit_l0 (K : Nat) (a : Q8) (hb : ∀ i, i < 256 → 0 ≤ a.Of.f i ∧ a.Of.f i < 256) : ∀ (m k i : Nat) (n : Int), 256 - i = m → i ≤ 256 → m < k → 0 ≤ n → n ≤ i → Xt K k n (i : Int) a = some (Oh a.Of m i n a.Many) := by
 intro m
 induction m with
 | zero =>
  intro k i n hm hi hk h0 h1
  obtain ⟨k, rfl⟩ := Qoe k (by omega)
  have hi' : i = 256 := by omega
  subst hi'
  rw [Xt]
  simp [Oh]
 | succ m ih =>
  intro k i n hm hi hk h0 h1
  obtain ⟨k, rfl⟩ := Qoe k (by omega)
  have hlt : i < 256 := by omega
  obtain ⟨b0, b1⟩ := hb i hlt
  have hg : IntKind.i64.wrap (Zp.get a.Of (i : Int)) = a.Of.f i := by
   simp only [Zp.get, Qk5]
   exact w64 (by omega) (by omega)
  have e0 : decide ((i : Int) < 256) = true := by simp; omega
  have e9 : IntKind.i64.wrap (n + 1) = n + 1 := w64 (by omega) (by omega)
  rw [Xt]
  simp only [e0, cT, Z4 (show 0 ≤ (i : Int) ∧ (i : Int) < 256 by omega), hg, Oh, Mf (n := i) (by omega), e9]
  by_cases h2 : a.Of.f i > n
  ·simp [h2]
  ·have e1 : decide (a.Of.f i > n) = false := by simp; omega
   simp only [e1, cF, if_neg h2]
   by_cases h3 : a.Of.f i = n
   ·have e2 : (a.Of.f i == n) = true := by simp [h3]
    simp only [e2, cT, if_pos h3]
    exact ih k (i + 1) (n + 1) (by omega) (by omega) (by omega) (by omega) (by omega)
   ·have e2 : (a.Of.f i == n) = false := by simp [h3]
    simp only [e2, cF, if_neg h3]
    exact ih k (i + 1) n (by omega) (by omega) (by omega) (by omega) (by omega)
theorem autoSplit (K : Nat) (hK : 257 ≤ K) (a : Q8) (hb : ∀ i, i < 256 → 0 ≤ a.Of.f i ∧ a.Of.f i < 256) : Og K a = some (Qix a) := by
 have := autoSplit_l0 K a hb 256 K 0 0 (by omega) (by omega) (by omega) (by omega) (by omega)
 rw [Og]; exact this
theorem refSplit (K : Nat) (hK : 257 ≤ K) (a : Q8) (hb : ∀ i, i < 256 → 0 ≤ a.Of.f i ∧ a.Of.f i < 256) : Gv K a = some (Qix a) := by
 have := refSplit_l0 K a hb 256 K 0 0 (by omega) (by omega) (by omega) (by omega) (by omega)
 rw [Gv]; exact this
end Go.Rv
namespace Go.Rv
def Qd3 (p : Nat → Bool) : Nat → Nat → Bool
 | 0, _ => true
 | m + 1, i => p i && Qd3 p m (i + 1)
theorem Qjy {p : Nat → Bool} : ∀ {m i : Nat}, Qd3 p m i = true ↔ ∀ j, i ≤ j → j < i + m → p j = true := by
 intro m
 induction m with
 | zero => intro i; simp [Qd3]; omega
 | succ m ih =>
  intro i
  simp only [Qd3, Qlz, ih]
  constructor
  ·rintro ⟨h0, h1⟩ j h2 h3
   by_cases h : j = i
   ·subst h; exact h0
   ·exact h1 j (by omega) (by omega)
  ·intro h
   exact ⟨h i (by omega) (by omega), fun j h2 h3 => h j (by omega) (by omega)⟩
theorem Qd2 {β : Type} (F : Nat → Nat → Option β) (n : Nat) (p : Nat → Bool) (fin bad : Option β) (hs : ∀ k i, i < n → F (k + 1) i = if p i = true then F k (i + 1) else bad) (he : ∀ k, F (k + 1) n = fin) :
  ∀ (m k i : Nat), n - i = m → i ≤ n → m < k → F k i = if Qd3 p m i = true then fin else bad := by
 intro m
 induction m with
 | zero =>
  intro k i hm hi hk
  obtain ⟨k, rfl⟩ := Qoe k (by omega)
  have : i = n := by omega
  subst this
  rw [he]
  simp [Qd3]
 | succ m ih =>
  intro k i hm hi hk
  obtain ⟨k, rfl⟩ := Qoe k (by omega)
  rw [hs k i (by omega), ih k (i + 1) (by omega) (by omega) (by omega)]
  cases hp : p i with
  | true => simp [Qd3, hp]
  | false => simp [Qd3, hp]
def stR (a : Qq) (m : Qf) : List Int := ((a.States[m.To.toNat]?).map (·.R)).getD []
def opP (a : Qq) (s : Qa) (m : Qf) (i : Nat) : Bool := decide (1 ≤ m.Ops.getD i 0) && (decide (m.Ops.getD i 0 ≤ 3) && (m.Ops.getD i 0 == 3 || s.R.contains ((stR a m).getD i 0)))
def Qid (a : Qq) (s : Qa) (m : Qf) : Bool :=
 if m.To = -1 then m.Ops.length == 0 else decide (1 ≤ m.To) && (decide (m.To < a.States.length) && (m.Ops.length == (stR a m).length && Qd3 (opP a s m) m.Ops.length 0))
def rowP (a : Qq) (s : Qa) (c : Nat) : Bool :=
 decide (-1 ≤ s.Rule.getD c 0) && (decide (s.Rule.getD c 0 < 512) && (((s.Next.getD c []).length : Int) == a.Split.Many && Qd3 (fun k => Qid a s ((s.Next.getD c []).getD k ⟨0, []⟩)) (s.Next.getD c []).length 0))
def Bc (a : Qq) (s : Qa) : Bool :=
 !(V5 s.R.length == 0) && (((s.Rule.length : Int) == V5 s.R.length) && (((s.Next.length : Int) == V5 s.R.length) && (Fm s.L 512 && (Fm s.R a.Counts.length && Qd3 (rowP a s) s.Next.length 0))))
def cntP (c : Xf) : Bool := !(decide (c.a0 < 1)) && (!(decide (c.a0 > c.a1)) && (!(decide (c.a1 < 2)) && !(decide (c.a1 > 4096))))
def rightP (a : Qq) : Bool :=
 Qix a.Split && (!(decide ((a.Counts.length : Int) > 512)) && (!(decide ((a.States.length : Int) < 1)) && (!(decide ((a.States.length : Int) > 256)) && ((((a.States.getD 0 ⟨[], [], [], []⟩).L.length == 0) && ((a.States.getD 0 ⟨[], [], [], []⟩).R.length == 0)) &&
  (Qd3 (fun i => cntP (a.Counts.getD i ⟨0, 0⟩)) a.Counts.length 0 && Qd3 (fun i => Bc a (a.States.getD i ⟨[], [], [], []⟩)) a.States.length 0)))))
theorem Q4 {α : Type} {l : List α} {i : Nat} {d : α} (h : i < l.length) : l.getD i d = l[i] := by simp [List.getD, h]
structure Okay (a : Qq) : Prop where
 split : ∀ i, i < 256 → 0 ≤ a.Split.Of.f i ∧ a.Split.Of.f i < 256
 counts : a.Counts.length ≤ 9223372036854775807
 states : a.States.length ≤ 9223372036854775807
 st : ∀ s ∈ a.States, s.L.length ≤ 9223372036854775807 ∧ s.R.length ≤ 9223372036854775807 ∧ s.Rule.length ≤ 9223372036854775807 ∧ s.Next.length ≤ 9223372036854775807 ∧ ∀ r ∈ s.Next, r.length ≤ 9223372036854775807 ∧ ∀ m ∈ r, m.Ops.length ≤ 9223372036854775807
def Qki (a : Qq) (K : Nat) : Prop := 300 ≤ K ∧ a.Counts.length < K ∧ a.States.length < K ∧ ∀ s ∈ a.States, s.L.length < K ∧ s.R.length < K ∧ s.Next.length < K ∧ ∀ r ∈ s.Next, r.length < K ∧ ∀ m ∈ r, m.Ops.length < K
theorem autoMove (K : Nat) (a : Qq) (s : Qa) (m : Qf) (hK : Qki a K) (hs : s.R.length < K ∧ s.R.length ≤ 9223372036854775807) (hm : m.Ops.length < K ∧ m.Ops.length ≤ 9223372036854775807) : Gz K ⟨a⟩ s m = some (Qid a s m) := by
 rw [Gz, Qid]
 by_cases h1 : m.To = -1
 ·have e1 : (m.To == -1) = true := by simp [h1]
  simp only [e1, cT, if_pos h1]
  refine congrArg some ?_
  by_cases h : m.Ops.length = 0
  ·simp [h]
  ·have f1 : ((m.Ops.length : Int) == 0) = false := Qlf.2 (by omega)
   have f2 : (m.Ops.length == 0) = false := Qlf.2 h
   rw [f1, f2]
 ·have e1 : (m.To == -1) = false := by simp [h1]
  simp only [e1, cF, if_neg h1]
  by_cases h2 : m.To < 1
  ·have e2 : decide (m.To < 1) = true := by simp [h2]
   have e3 : decide (1 ≤ m.To) = false := by simp; omega
   simp [e2, e3, Xx]
  ·have e2 : decide (m.To < 1) = false := by simp; omega
   have e3 : decide (1 ≤ m.To) = true := by simp; omega
   simp only [e2, cF, e3, Qlh]
   by_cases h3 : m.To ≥ (a.States.length : Int)
   ·have e4 : decide (m.To ≥ (a.States.length : Int)) = true := by simp [h3]
    have e5 : decide (m.To < (a.States.length : Int)) = false := by simp; omega
    simp [e4, e5, Xx]
   ·have e4 : decide (m.To ≥ (a.States.length : Int)) = false := by simp; omega
    have e5 : decide (m.To < (a.States.length : Int)) = true := by simp; omega
    have hto : m.To.toNat < a.States.length := by omega
    have hg : Ys a.States m.To = some a.States[m.To.toNat] := by
     have := Q3 hto
     rwa [Qnl (by omega)] at this
    have hR : stR a m = a.States[m.To.toNat].R := by simp [stR, hto]
    simp only [e4, cF, e5, Qlh, hg, bS]
    rw [← hR]
    by_cases h6 : m.Ops.length = (stR a m).length
    ·have e6 : ((m.Ops.length : Int) != ((stR a m).length : Int)) = false := by simp [h6]
     have e7 : (m.Ops.length == (stR a m).length) = true := by simp [h6]
     simp only [e6, cF, e7, Qlh]
     have := Qd2 (fun k i => Xv K k m (m.Ops.length : Int) (i : Int) ⟨a⟩ s) m.Ops.length (opP a s m) (some true) (some false) (fun k i hi => by
      have hi2 : i < (stR a m).length := by omega
      have hi3 : i < a.States[m.To.toNat].R.length := by rw [← hR]; exact hi2
      rw [Xv]
      simp only [Dl hi, cT, Q3 hi, bS, Mf (n := i) (by omega), opP, Q4 hi, Q4 hi2, hg, Q3 hi3]
      by_cases g1 : m.Ops[i] < 1
      ·have f1 : decide (m.Ops[i] < 1) = true := by simp [g1]
       have f2 : decide (1 ≤ m.Ops[i]) = false := by simp; omega
       simp [f1, f2, Xw]
      ·have f1 : decide (m.Ops[i] < 1) = false := by simp; omega
       have f2 : decide (1 ≤ m.Ops[i]) = true := by simp; omega
       simp only [f1, cF, f2, Qlh]
       by_cases g2 : m.Ops[i] > 3
       ·have f3 : decide (m.Ops[i] > 3) = true := by simp [g2]
        have f4 : decide (m.Ops[i] ≤ 3) = false := by simp; omega
        simp [f3, f4, Xw]
       ·have f3 : decide (m.Ops[i] > 3) = false := by simp; omega
        have f4 : decide (m.Ops[i] ≤ 3) = true := by simp; omega
        simp only [f3, cF, f4, Qlh]
        by_cases g3 : m.Ops[i] = 3
        ·simp [g3]
        ·have f5 : (m.Ops[i] != 3) = true := by simp [g3]
         have f6 : (m.Ops[i] == 3) = false := by simp [g3]
         have hR2 : a.States[m.To.toNat].R[i] = (stR a m)[i] := by simp only [hR]
         simp only [f5, cT, f6, Qm4, slContains K s.R _ hs.2 hs.1, bS, hR2]
         cases s.R.contains (stR a m)[i] <;> simp [Xw]) (fun k => by rw [Xv]; simp only [Kw (Qk9 _), cF]) m.Ops.length K 0 (by omega) (by omega) hm.1
     simp only [Qk6] at this
     rw [this]
     cases Qd3 (opP a s m) m.Ops.length 0 <;> simp
    ·have e6 : ((m.Ops.length : Int) != ((stR a m).length : Int)) = true := by simp; omega
     have e7 : (m.Ops.length == (stR a m).length) = false := by simp [h6]
     simp [e6, e7, Xx]
theorem refMove (K : Nat) (a : Qq) (s : Qa) (m : Qf) (hK : Qki a K) (hs : s.R.length < K ∧ s.R.length ≤ 9223372036854775807) (hm : m.Ops.length < K ∧ m.Ops.length ≤ 9223372036854775807) : Lv K a s m = some (Qid a s m) := by
 rw [Lv, Qid]
 by_cases h1 : m.To = -1
 ·have e1 : (m.To == -1) = true := by simp [h1]
  simp only [e1, cT, if_pos h1]
  refine congrArg some ?_
  by_cases h : m.Ops.length = 0
  ·simp [h]
  ·have f1 : ((m.Ops.length : Int) == 0) = false := Qlf.2 (by omega)
   have f2 : (m.Ops.length == 0) = false := Qlf.2 h
   rw [f1, f2]
 ·have e1 : (m.To == -1) = false := by simp [h1]
  simp only [e1, cF, if_neg h1]
  by_cases h2 : m.To < 1
  ·have e2 : decide (m.To < 1) = true := by simp [h2]
   have e3 : decide (1 ≤ m.To) = false := by simp; omega
   simp [e2, e3, Va]
  ·have e2 : decide (m.To < 1) = false := by simp; omega
   have e3 : decide (1 ≤ m.To) = true := by simp; omega
   simp only [e2, cF, e3, Qlh]
   by_cases h3 : m.To ≥ (a.States.length : Int)
   ·have e4 : decide (m.To ≥ (a.States.length : Int)) = true := by simp [h3]
    have e5 : decide (m.To < (a.States.length : Int)) = false := by simp; omega
    simp [e4, e5, Va]
   ·have e4 : decide (m.To ≥ (a.States.length : Int)) = false := by simp; omega
    have e5 : decide (m.To < (a.States.length : Int)) = true := by simp; omega
    have hto : m.To.toNat < a.States.length := by omega
    have hg : Ys a.States m.To = some a.States[m.To.toNat] := by
     have := Q3 hto
     rwa [Qnl (by omega)] at this
    have hR : stR a m = a.States[m.To.toNat].R := by simp [stR, hto]
    simp only [e4, cF, e5, Qlh, hg, bS]
    rw [← hR]
    by_cases h6 : m.Ops.length = (stR a m).length
    ·have e6 : ((m.Ops.length : Int) != ((stR a m).length : Int)) = false := by simp [h6]
     have e7 : (m.Ops.length == (stR a m).length) = true := by simp [h6]
     simp only [e6, cF, e7, Qlh]
     have := Qd2 (fun k i => X8 K k (i : Int) a s m) m.Ops.length (opP a s m) (some true) (some false) (fun k i hi => by
      have hi2 : i < (stR a m).length := by omega
      have hi3 : i < a.States[m.To.toNat].R.length := by rw [← hR]; exact hi2
      rw [X8]
      simp only [Dl hi, cT, Q3 hi, bS, Mf (n := i) (by omega), opP, Q4 hi, Q4 hi2, hg, Q3 hi3]
      by_cases g1 : m.Ops[i] < 1
      ·have f1 : decide (m.Ops[i] < 1) = true := by simp [g1]
       have f2 : decide (1 ≤ m.Ops[i]) = false := by simp; omega
       simp [f1, f2, X9]
      ·have f1 : decide (m.Ops[i] < 1) = false := by simp; omega
       have f2 : decide (1 ≤ m.Ops[i]) = true := by simp; omega
       simp only [f1, cF, f2, Qlh]
       by_cases g2 : m.Ops[i] > 3
       ·have f3 : decide (m.Ops[i] > 3) = true := by simp [g2]
        have f4 : decide (m.Ops[i] ≤ 3) = false := by simp; omega
        simp [f3, f4, X9]
       ·have f3 : decide (m.Ops[i] > 3) = false := by simp; omega
        have f4 : decide (m.Ops[i] ≤ 3) = true := by simp; omega
        simp only [f3, cF, f4, Qlh]
        by_cases g3 : m.Ops[i] = 3
        ·simp [g3]
        ·have f5 : (m.Ops[i] != 3) = true := by simp [g3]
         have f6 : (m.Ops[i] == 3) = false := by simp [g3]
         have hR2 : a.States[m.To.toNat].R[i] = (stR a m)[i] := by simp only [hR]
         simp only [f5, cT, f6, Qm4, refIn K s.R _ hs.2 hs.1, bS, hR2]
         cases s.R.contains (stR a m)[i] <;> simp [X9]) (fun k => by rw [X8]; simp only [Kw (Qk9 _), cF]) m.Ops.length K 0 (by omega) (by omega) hm.1
     simp only [Qk6] at this
     rw [this]
     cases Qd3 (opP a s m) m.Ops.length 0 <;> simp
    ·have e6 : ((m.Ops.length : Int) != ((stR a m).length : Int)) = true := by simp; omega
     have e7 : (m.Ops.length == (stR a m).length) = false := by simp [h6]
     simp [e6, e7, Va]
end Go.Rv
namespace Go.Rv
theorem findLoop (F : Nat → Nat → Option Int) (n : Nat) (p : Nat → Bool) (hs : ∀ k i, i < n → F (k + 1) i = if p i = true then F k (i + 1) else some (i : Int)) (he : ∀ k, F (k + 1) n = some (-1)) :
  ∀ (m k i : Nat), n - i = m → i ≤ n → m < k → ∃ r, F k i = some r ∧ decide (r ≥ 0) = !Qd3 p m i := by
 intro m
 induction m with
 | zero =>
  intro k i hm hi hk
  obtain ⟨k, rfl⟩ := Qoe k (by omega)
  have : i = n := by omega
  subst this
  exact ⟨-1, he k, by simp [Qd3]⟩
 | succ m ih =>
  intro k i hm hi hk
  obtain ⟨k, rfl⟩ := Qoe k (by omega)
  rw [hs k i (by omega)]
  cases hp : p i with
  | true =>
   obtain ⟨r, h1, h2⟩ := ih k (i + 1) (by omega) (by omega) (by omega)
   exact ⟨r, by simp [h1], by simpa [Qd3, hp] using h2⟩
  | false => exact ⟨i, by simp, by simp [Qd3, hp]⟩
def mvOk (K : Nat) (r : List Qf) : Prop := r.length < K ∧ r.length ≤ 9223372036854775807 ∧ ∀ m ∈ r, m.Ops.length < K ∧ m.Ops.length ≤ 9223372036854775807
def stOk (K : Nat) (s : Qa) : Prop := (s.L.length < K ∧ s.L.length ≤ 9223372036854775807) ∧ (s.R.length < K ∧ s.R.length ≤ 9223372036854775807) ∧ s.Rule.length ≤ 9223372036854775807 ∧ (s.Next.length < K ∧ s.Next.length ≤ 9223372036854775807) ∧ ∀ r ∈ s.Next, mvOk K r
theorem autoRow (K : Nat) (a : Qq) (s : Qa) (row : List Qf) (hK : Qki a K) (hs : stOk K s) (hr : mvOk K row) : Uh K row ⟨a⟩ s = some (!Qd3 (fun k => Qid a s (row.getD k ⟨0, []⟩)) row.length 0) := by
 obtain ⟨r, h1, h2⟩ := findLoop (fun k i => Y8 K k row (row.length : Int) (i : Int) ⟨a⟩ s) row.length (fun k => Qid a s (row.getD k ⟨0, []⟩)) (fun k i hi => by
  have hm := hr.2.2 row[i] (Qkz hi)
  have hl := hr.2.1
  rw [Y8]
  simp only [Dl hi, cT, Q3 hi, bS, Mf (n := i) (by omega), Q4 hi, Gf, autoMove K a s row[i] hK hs.2.1 hm]
  cases Qid a s row[i] <;> simp) (fun k => by rw [Y8]; simp only [Kw (Qk9 _), cF]) row.length K 0 (by omega) (by omega) hr.1
 rw [Qk6] at h1
 rw [Uh, Hf, h1, bS, h2]
theorem autoState (K : Nat) (a : Qq) (s : Qa) (hK : Qki a K) (hc : a.Counts.length ≤ 9223372036854775807) (hs : stOk K s) : Hl K ⟨a⟩ s = some (Bc a s) := by
 have hK' := hK.1
 rw [Hl, autoCodes K (by omega), bS, Bc]
 by_cases h1 : V5 s.R.length = 0
 ·simp [h1, Z9]
 ·have e1 : (V5 (s.R.length : Int) == 0) = false := Qlf.2 h1
  simp only [e1, cF, Qlx, Qlh]
  by_cases h2 : (s.Rule.length : Int) = V5 s.R.length
  ·have e2 : ((s.Rule.length : Int) != V5 s.R.length) = false := by simp [h2]
   have e2' : ((s.Rule.length : Int) == V5 s.R.length) = true := by simp [h2]
   simp only [e2, cF, e2', Qlh]
   by_cases h3 : (s.Next.length : Int) = V5 s.R.length
   ·have e3 : ((s.Next.length : Int) != V5 s.R.length) = false := by simp [h3]
    have e3' : ((s.Next.length : Int) == V5 s.R.length) = true := by simp [h3]
    simp only [e3, cF, e3', Qlh, autoRises K s.L 512 hs.1.2 hs.1.1, autoRises K s.R _ hs.2.1.2 hs.2.1.1, bS]
    cases h4 : Fm s.L 512 with
    | false => simp [Z9]
    | true =>
     cases h5 : Fm s.R (a.Counts.length : Int) with
     | false => simp [Z9]
     | true =>
      simp only [Qly, cF, Qlh]
      have := Qd2 (fun k i => Ve K k s (s.Next.length : Int) (i : Int) ⟨a⟩) s.Next.length (rowP a s) (some true) (some false) (fun k i hi => by
       have hi2 : i < s.Rule.length := by omega
       have hrow := hs.2.2.2.2 s.Next[i] (Qkz hi)
       have hl := hs.2.2.2.1.2
       rw [Ve]
       simp only [Dl hi, cT, Q3 hi, Q3 hi2, bS, Mf (n := i) (by omega), rowP, Q4 hi, Q4 hi2]
       by_cases g1 : s.Rule[i] < -1
       ·have f1 : decide (s.Rule[i] < -1) = true := by simp [g1]
        have f2 : decide (-1 ≤ s.Rule[i]) = false := by simp; omega
        simp [f1, f2, Xk]
       ·have f1 : decide (s.Rule[i] < -1) = false := by simp; omega
        have f2 : decide (-1 ≤ s.Rule[i]) = true := by simp; omega
        simp only [f1, cF, f2, Qlh]
        by_cases g2 : s.Rule[i] ≥ 512
        ·have f3 : decide (s.Rule[i] ≥ 512) = true := by simp [g2]
         have f4 : decide (s.Rule[i] < 512) = false := by simp; omega
         simp [f3, f4, Xk]
        ·have f3 : decide (s.Rule[i] ≥ 512) = false := by simp; omega
         have f4 : decide (s.Rule[i] < 512) = true := by simp; omega
         simp only [f3, cF, f4, Qlh]
         by_cases g3 : (s.Next[i].length : Int) = a.Split.Many
         ·have f5 : ((s.Next[i].length : Int) != a.Split.Many) = false := by simp [g3]
          have f6 : ((s.Next[i].length : Int) == a.Split.Many) = true := by simp [g3]
          simp only [f5, cF, f6, Qlh, autoRow K a s s.Next[i] hK hs hrow, bS]
          cases Qd3 (fun k => Qid a s (s.Next[i].getD k ⟨0, []⟩)) s.Next[i].length 0 <;> simp
         ·have f5 : ((s.Next[i].length : Int) != a.Split.Many) = true := by simp [g3]
          have f6 : ((s.Next[i].length : Int) == a.Split.Many) = false := by simp [g3]
          simp [f5, f6, Xk]) (fun k => by rw [Ve]; simp only [Kw (Qk9 _), cF]) s.Next.length K 0 (by omega) (by omega) hs.2.2.2.1.1
      simp only [Qk6] at this
      rw [this]
      cases Qd3 (rowP a s) s.Next.length 0 <;> simp
   ·have e3 : ((s.Next.length : Int) != V5 s.R.length) = true := by simp [h3]
    have e3' : ((s.Next.length : Int) == V5 s.R.length) = false := by simp [h3]
    simp [e3, e3', Z9]
  ·have e2 : ((s.Rule.length : Int) != V5 s.R.length) = true := by simp [h2]
   have e2' : ((s.Rule.length : Int) == V5 s.R.length) = false := by simp [h2]
   simp [e2, e2', Z9]
theorem refState (K : Nat) (a : Qq) (s : Qa) (hK : Qki a K) (hc : a.Counts.length ≤ 9223372036854775807) (hs : stOk K s) : Gn K a s = some (Bc a s) := by
 have hK' := hK.1
 rw [Gn, refCodes K (by omega), bS, Bc]
 by_cases h1 : V5 s.R.length = 0
 ·simp [h1, Yh]
 ·have e1 : (V5 (s.R.length : Int) == 0) = false := Qlf.2 h1
  simp only [e1, cF, Qlx, Qlh, refRises K s.L 512 hs.1.2 hs.1.1, refRises K s.R _ hs.2.1.2 hs.2.1.1, bS]
  cases h4 : Fm s.L 512 with
  | false => simp [Yh]
  | true =>
   cases h5 : Fm s.R (a.Counts.length : Int) with
   | false => simp [Yh]
   | true =>
    simp only [Qly, cF, Qlh]
    by_cases h2 : (s.Rule.length : Int) = V5 s.R.length
    ·have e2 : ((s.Rule.length : Int) != V5 s.R.length) = false := by simp [h2]
     have e2' : ((s.Rule.length : Int) == V5 s.R.length) = true := by simp [h2]
     simp only [e2, cF, e2', Qlh]
     by_cases h3 : (s.Next.length : Int) = V5 s.R.length
     ·have e3 : ((s.Next.length : Int) != V5 s.R.length) = false := by simp [h3]
      have e3' : ((s.Next.length : Int) == V5 s.R.length) = true := by simp [h3]
      simp only [e3, cF, e3', Qlh]
      rw [← h3]
      have := Qd2 (fun k i => Yu K k (s.Next.length : Int) (i : Int) a s) s.Next.length (rowP a s) (some true) (some false) (fun k i hi => by
       have hi2 : i < s.Rule.length := by omega
       have hrow := hs.2.2.2.2 s.Next[i] (Qkz hi)
       have hl := hs.2.2.2.1.2
       rw [Yu]
       simp only [Dl hi, cT, Q3 hi, Q3 hi2, bS, rowP, Q4 hi, Q4 hi2]
       by_cases g1 : s.Rule[i] < -1
       ·have f1 : decide (s.Rule[i] < -1) = true := by simp [g1]
        have f2 : decide (-1 ≤ s.Rule[i]) = false := by simp; omega
        simp [f1, f2, Xp]
       ·have f1 : decide (s.Rule[i] < -1) = false := by simp; omega
        have f2 : decide (-1 ≤ s.Rule[i]) = true := by simp; omega
        simp only [f1, cF, f2, Qlh]
        by_cases g2 : s.Rule[i] ≥ 512
        ·have f3 : decide (s.Rule[i] ≥ 512) = true := by simp [g2]
         have f4 : decide (s.Rule[i] < 512) = false := by simp; omega
         simp [f3, f4, Xp]
        ·have f3 : decide (s.Rule[i] ≥ 512) = false := by simp; omega
         have f4 : decide (s.Rule[i] < 512) = true := by simp; omega
         simp only [f3, cF, f4, Qlh]
         by_cases g3 : (s.Next[i].length : Int) = a.Split.Many
         ·have f5 : ((s.Next[i].length : Int) != a.Split.Many) = false := by simp [g3]
          have f6 : ((s.Next[i].length : Int) == a.Split.Many) = true := by simp [g3]
          simp only [f5, cF, f6, Qlh]
          have inner := Qd2 (fun k' j => Vt K (Yu K k) k' (s.Next.length : Int) (i : Int) (j : Int) s (i : Int) s.Rule[i] s.Rule[i] false (i : Int) s.Next[i] s.Next[i] (s.Next[i].length : Int) a false) s.Next[i].length (fun k => Qid a s (s.Next[i].getD k ⟨0, []⟩))
           (Yu K k (s.Next.length : Int) ((i + 1 : Nat) : Int) a s) (some false) (fun k' j hj => by
            have hm := hrow.2.2 s.Next[i][j] (Qkz hj)
            have hl2 := hrow.2.1
            rw [Vt]
            simp only [Q3 hi, bS, Dl hj, cT, Q3 hj, Mf (n := j) (by omega), Q4 hj, refMove K a s s.Next[i][j] hK hs.2.1 hm]
            cases Qid a s s.Next[i][j] <;> simp) (fun k' => by rw [Vt]; simp only [Q3 hi, bS, Kw (Qk9 _), cF, Mf (n := i) (by omega)]) s.Next[i].length K 0 (by omega) (by omega) hrow.1
          simp only [Qk6] at inner
          rw [inner]
         ·have f5 : ((s.Next[i].length : Int) != a.Split.Many) = true := by simp [g3]
          have f6 : ((s.Next[i].length : Int) == a.Split.Many) = false := by simp [g3]
          simp [f5, f6, Xp]) (fun k => by rw [Yu]; simp only [Kw (Qk9 _), cF]) s.Next.length K 0 (by omega) (by omega) hs.2.2.2.1.1
      simp only [Qk6] at this
      rw [this]
      cases Qd3 (rowP a s) s.Next.length 0 <;> simp
     ·have e3 : ((s.Next.length : Int) != V5 s.R.length) = true := by simp [h3]
      have e3' : ((s.Next.length : Int) == V5 s.R.length) = false := by simp [h3]
      simp [e3, e3', Yh]
    ·have e2 : ((s.Rule.length : Int) != V5 s.R.length) = true := by simp [h2]
     have e2' : ((s.Rule.length : Int) == V5 s.R.length) = false := by simp [h2]
     simp [e2, e2', Yh]
theorem Okay.stOk {a : Qq} (h : Okay a) {K : Nat} (hK : Qki a K) {s : Qa} (hs : s ∈ a.States) : stOk K s := by
 obtain ⟨h1, h2, h3, h4, h5⟩ := h.st s hs
 obtain ⟨k1, k2, k3, k4⟩ := hK.2.2.2 s hs
 exact ⟨⟨k1, h1⟩, ⟨k2, h2⟩, h3, ⟨k3, h4⟩, fun r hr => ⟨(k4 r hr).1, (h5 r hr).1, fun m hm => ⟨(k4 r hr).2 m hm, (h5 r hr).2 m hm⟩⟩⟩
theorem cnt_loop (c : Xf) {β : Type} (x y : Option β) : (bif decide ((Xf.get c (0 : Int)) < (1 : Int)) then y else bif decide ((Xf.get c (0 : Int)) > (Xf.get c (1 : Int))) then y else bif decide ((Xf.get c (1 : Int)) < (2 : Int)) then y else bif decide ((Xf.get c (1 : Int)) > (4096 : Int)) then y else x) = if cntP c = true then x else y := by
 have g0 : Xf.get c 0 = c.a0 := rfl
 have g1 : Xf.get c 1 = c.a1 := rfl
 rw [g0, g1, cntP]
 cases decide (c.a0 < 1) <;> cases decide (c.a0 > c.a1) <;> cases decide (c.a1 < 2) <;> cases decide (c.a1 > 4096) <;> simp
theorem autoTail (K : Nat) (a : Qq) (h : Okay a) (hK : Qki a K) : Hm K K a (a.Counts.length : Int) 0 = some (Qd3 (fun i => cntP (a.Counts.getD i ⟨0, 0⟩)) a.Counts.length 0 && Qd3 (fun i => Bc a (a.States.getD i ⟨[], [], [], []⟩)) a.States.length 0) := by
 have hc := h.counts
 have hs := h.states
 obtain ⟨r, h1, h2⟩ := findLoop (fun k i => Y1 K k a.States (a.States.length : Int) (i : Int) ⟨a⟩) a.States.length (fun i => Bc a (a.States.getD i ⟨[], [], [], []⟩)) (fun k i hi => by
  have hm := h.stOk hK (Qkz hi)
  rw [Y1]
  simp only [Dl hi, cT, Q3 hi, bS, Mf (n := i) (by omega), Q4 hi, Rq, autoState K a a.States[i] hK hc hm]
  cases Bc a a.States[i] <;> simp) (fun k => by rw [Y1]; simp only [Kw (Qk9 _), cF]) a.States.length K 0 (by omega) (by omega) hK.2.2.1
 rw [Qk6] at h1
 have e : (V8 K a.States ⟨a⟩) = some (!Qd3 (fun i => Bc a (a.States.getD i ⟨[], [], [], []⟩)) a.States.length 0) := by
  rw [V8, Wv, h1, bS, h2]
 have := Qd2 (fun k i => Hm K k a (a.Counts.length : Int) (i : Int)) a.Counts.length (fun i => cntP (a.Counts.getD i ⟨0, 0⟩)) (some (Qd3 (fun i => Bc a (a.States.getD i ⟨[], [], [], []⟩)) a.States.length 0)) (some false) (fun k i hi => by
  rw [Hm]
  simp only [Dl hi, cT, Q3 hi, bS, Mf (n := i) (by omega), Q4 hi, Lp]
  exact cnt_loop _ _ _) (fun k => by rw [Hm]; simp only [Kw (Qk9 _), cF, e, bS, Bool.not_not]) a.Counts.length K 0 (by omega) (by omega) hK.2.1
 simp only [Qk6] at this
 rw [this]
 cases Qd3 (fun i => cntP (a.Counts.getD i ⟨0, 0⟩)) a.Counts.length 0 <;> simp
theorem refTail (K : Nat) (a : Qq) (h : Okay a) (hK : Qki a K) : Xq K K 0 a = some (Qd3 (fun i => cntP (a.Counts.getD i ⟨0, 0⟩)) a.Counts.length 0 && Qd3 (fun i => Bc a (a.States.getD i ⟨[], [], [], []⟩)) a.States.length 0) := by
 have hc := h.counts
 have hs := h.states
 have e := Qd2 (fun k i => Vv K k (i : Int) a) a.States.length (fun i => Bc a (a.States.getD i ⟨[], [], [], []⟩)) (some true) (some false) (fun k i hi => by
  have hm := h.stOk hK (Qkz hi)
  rw [Vv]
  simp only [Dl hi, cT, Q3 hi, bS, Mf (n := i) (by omega), Q4 hi, refState K a a.States[i] hK hc hm]
  cases Bc a a.States[i] <;> simp) (fun k => by rw [Vv]; simp only [Kw (Qk9 _), cF]) a.States.length K 0 (by omega) (by omega) hK.2.2.1
 simp only [Qk6] at e
 have := Qd2 (fun k i => Xq K k (i : Int) a) a.Counts.length (fun i => cntP (a.Counts.getD i ⟨0, 0⟩)) (some (Qd3 (fun i => Bc a (a.States.getD i ⟨[], [], [], []⟩)) a.States.length 0)) (some false) (fun k i hi => by
  rw [Xq]
  simp only [Dl hi, cT, Q3 hi, bS, Mf (n := i) (by omega), Q4 hi, Vw]
  exact cnt_loop _ _ _) (fun k => by
   rw [Xq]; simp only [Kw (Qk9 _), cF, e]
   cases Qd3 (fun i => Bc a (a.States.getD i ⟨[], [], [], []⟩)) a.States.length 0 <;> simp) a.Counts.length K 0 (by omega) (by omega) hK.2.1
 simp only [Qk6] at this
 rw [this]
 cases Qd3 (fun i => cntP (a.Counts.getD i ⟨0, 0⟩)) a.Counts.length 0 <;> simp
theorem state0_small {a : Qq} (hc : (a.Counts.length : Int) ≤ 512) {s : Qa} (hs : Bc a s = true) : s.L.length ≤ 512 ∧ s.R.length ≤ 512 := by
 simp only [Bc, Qlz] at hs
 obtain ⟨_, _, _, h1, h2, _⟩ := hs
 constructor
 ·rcases Eu s.L (-1) (by omega) h1 with h | h
  ·omega
  ·simp [h]
 ·rcases Eu s.R (-1) (by omega) h2 with h | h
  ·omega
  ·simp [h]
theorem autoRight (K : Nat) (a : Qq) (h : Okay a) (hK : Qki a K) : Cw K a = some (rightP a) := by
 have hK' := hK.1
 rw [Cw, autoSplit K (by omega) a.Split h.split, bS, rightP]
 cases Qix a.Split with
 | false => simp [Vo]
 | true =>
  simp only [Qly, cF, Qlh]
  by_cases h0 : (a.Counts.length : Int) > 512
  ·simp [h0, Vo]
  ·have e0 : decide ((a.Counts.length : Int) > 512) = false := Qkx h0
   simp only [e0, cF, Qlx, Qlh]
   by_cases h1 : (a.States.length : Int) < 1
   ·simp [h1, Vo]
   ·have e1 : decide ((a.States.length : Int) < 1) = false := Qkx h1
    have hl : 0 < a.States.length := by omega
    simp only [e1, cF, Qlx, Qlh]
    by_cases h2 : (a.States.length : Int) > 256
    ·simp [h2, Vo]
    ·have e2 : decide ((a.States.length : Int) > 256) = false := Qkx h2
     have hg : Ys a.States 0 = some a.States[0] := Q3 hl
     have hst := h.st a.States[0] (Qkz hl)
     simp only [e2, cF, Qlx, Qlh, hg, bS, Q4 hl, autoTail K a h hK]
     by_cases hbig : 9223372036854775807 < a.States[0].L.length + a.States[0].R.length
     ·-- so long a first state is refused all the same
      have f1 : Qd3 (fun i => Bc a (a.States.getD i ⟨[], [], [], []⟩)) a.States.length 0 = false := by
       cases hh : Qd3 (fun i => Bc a (a.States.getD i ⟨[], [], [], []⟩)) a.States.length 0 with
       | false => rfl
       | true =>
        have := Qjy.1 hh 0 (by omega) (by omega)
        simp only [Q4 hl] at this
        have := state0_small (by omega) this
        omega
      rw [f1]
      cases decide (IntKind.i64.wrap ((a.States[0].L.length : Int) + (a.States[0].R.length : Int)) > 0) <;> simp [Vo]
     ·have hcode : (decide (IntKind.i64.wrap ((a.States[0].L.length : Int) + (a.States[0].R.length : Int)) > 0)) = !((a.States[0].L.length == 0) && (a.States[0].R.length == 0)) := by
       rw [w64 (by omega) (by omega)]
       by_cases g1 : a.States[0].L.length = 0
       ·by_cases g2 : a.States[0].R.length = 0
        ·simp [g1, g2]
        ·have f1 : decide ((a.States[0].L.length : Int) + (a.States[0].R.length : Int) > 0) = true := by simp; omega
         have f2 : (a.States[0].R.length == 0) = false := Qlf.2 g2
         rw [f1, f2]; simp
       ·have f1 : decide ((a.States[0].L.length : Int) + (a.States[0].R.length : Int) > 0) = true := by simp; omega
        have f2 : (a.States[0].L.length == 0) = false := Qlf.2 g1
        rw [f1, f2]; simp
      rw [hcode]
      cases ((a.States[0].L.length == 0) && (a.States[0].R.length == 0)) <;> simp [Vo]
theorem refRight (K : Nat) (a : Qq) (h : Okay a) (hK : Qki a K) : Wg K a = some (rightP a) := by
 have hK' := hK.1
 rw [Wg, refSplit K (by omega) a.Split h.split, bS, rightP]
 cases Qix a.Split with
 | false => simp [Z0]
 | true =>
  simp only [Qly, cF, Qlh]
  by_cases h0 : (a.Counts.length : Int) > 512
  ·simp [h0, Z0]
  ·have e0 : decide ((a.Counts.length : Int) > 512) = false := Qkx h0
   simp only [e0, cF, Qlx, Qlh]
   by_cases h1 : (a.States.length : Int) < 1
   ·simp [h1, Z0]
   ·have e1 : decide ((a.States.length : Int) < 1) = false := Qkx h1
    have hl : 0 < a.States.length := by omega
    simp only [e1, cF, Qlx, Qlh]
    by_cases h2 : (a.States.length : Int) > 256
    ·simp [h2, Z0]
    ·have e2 : decide ((a.States.length : Int) > 256) = false := Qkx h2
     have hg : Ys a.States 0 = some a.States[0] := Q3 hl
     simp only [e2, cF, Qlx, Qlh, hg, bS, Q4 hl, refTail K a h hK]
     by_cases g1 : a.States[0].L.length = 0
     ·have f1 : decide ((a.States[0].L.length : Int) > 0) = false := Qkx (by omega)
      have f1' : (a.States[0].L.length == 0) = true := by simp [g1]
      simp only [f1, cF, f1', Qlh]
      by_cases g2 : a.States[0].R.length = 0
      ·have f2 : decide ((a.States[0].R.length : Int) > 0) = false := Qkx (by omega)
       have f2' : (a.States[0].R.length == 0) = true := by simp [g2]
       simp only [f2, cF, f2', Qlh]
      ·have f2 : decide ((a.States[0].R.length : Int) > 0) = true := Qk1 (by omega)
       have f2' : (a.States[0].R.length == 0) = false := Qlf.2 g2
       simp only [f2, cT, f2', Qm6, Bool.and_false, Z0]
     ·have f1 : decide ((a.States[0].L.length : Int) > 0) = true := Qk1 (by omega)
      have f1' : (a.States[0].L.length == 0) = false := Qlf.2 g1
      simp only [f1, cT, f1', Qm6, Bool.and_false, Z0]
end Go.Rv

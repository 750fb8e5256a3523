/- Automata, plainly: what both layers' questions 'may it be so?' answer. -/
/- Automata, plainly: both layers' Right is one. -/
/- Automata, plainly: both layers' Right is one: states, and the whole. -/
import Derived.Test.YtaipjabggdifoaaRgP
import Derived.KernelRfl
namespace Go.Rv
theorem bS {α β : Type} (a : α) (f : α → Option β) : (some a).bind f = f a := rfl
theorem cT {α : Type} (a b : α) : (bif true then a else b) = a := rfl
theorem cF {α : Type} (a b : α) : (bif false then a else b) = b := rfl
theorem Z1 {β : Type} {p : Prop} [Decidable p] {f : Unit → Option β} (h : p) : (ck p).bind f = f () := by simp [ck, h]
theorem Zf {α : Type} {l : List α} {i : Nat} (h : i < l.length) : X4 l (i : Int) = some l[i] := by simp [X4, h]
theorem wf_u8 {n : Int} (h : (Lit.int .u8 n).wf = true) : 0 ≤ n ∧ n < 256 := by
 simp [Lit.wf, IntKind.min, IntKind.max, IntKind.signed, IntKind.bits] at h
 omega
theorem w64 {n : Int} (h0 : -9223372036854775808 ≤ n) (h1 : n < 9223372036854775808) : IntKind.i64.wrap n = n := by rw [IntKind.wrap_i64]; omega
theorem Kz {n : Nat} (h : n < 9223372036854775807) : IntKind.i64.wrap ((n : Int) + 1) = ((n + 1 : Nat) : Int) := by rw [w64 (by omega) (by omega)]; omega
theorem Xc {i n : Nat} (h : i < n) : (decide ((i : Int) < (n : Int))) = true := by simp; exact h
theorem Z7 {i n : Nat} (h : n ≤ i) : (decide ((i : Int) < (n : Int))) = false := by simp; exact h
/- Numbers that rise. -/
def Ch (below : Int) : Int → List Int → Bool
 | _, [] => true
 | last, n :: l => !(decide (n ≤ last)) && (!(decide (n ≥ below)) && Ch below n l)
def Iw (l : List Int) (below : Int) : Bool := Ch below (-1) l
theorem Sw {below : Int} : ∀ (l : List Int) (last : Int), -1 ≤ last → Ch below last l = true → (l.length : Int) ≤ below - last - 1 ∨ l = [] := by
 intro l
 induction l with
 | nil => intro last _ _; exact .inr rfl
 | cons n l ih =>
  intro last h0 h
  simp only [Ch, Bool.and_eq_true, Bool.not_eq_true', decide_eq_false_iff_not] at h
  obtain ⟨h1, h2, h3⟩ := h
  refine .inl ?_
  rcases ih n (by omega) h3 with h4 | h4
  ·simp only [List.length_cons]; omega
  ·subst h4; simp only [List.length_cons, List.length_nil]; omega
theorem autoRises_l0 (K : Nat) (xs : List Int) (b : Int) (hl : xs.length ≤ 9223372036854775807) : ∀ (m k i : Nat) (last : Int), xs.length - i = m → i ≤ xs.length → m < k → Jv K k b last xs (xs.length : Int) (i : Int) = some (Ch b last (xs.drop i)) := by
 intro m
 induction m with
 | zero =>
  intro k i last hm hi hk
  obtain ⟨k, rfl⟩ : ∃ k', k = k' + 1 := ⟨k - 1, by omega⟩
  have hi' : i = xs.length := by omega
  subst hi'
  rw [Jv]
  simp only [Z7 (Nat.le_refl _), cF, List.drop_length, Ch]
 | succ m ih =>
  intro k i last hm hi hk
  obtain ⟨k, rfl⟩ : ∃ k', k = k' + 1 := ⟨k - 1, by omega⟩
  have hlt : i < xs.length := by omega
  rw [Jv, List.drop_eq_getElem_cons hlt]
  simp only [Xc hlt, cT, Zf hlt, bS, Ch, G6, Kz (n := i) (by omega)]
  cases decide (xs[i] ≤ last) with
  | true => simp
  | false =>
   cases decide (xs[i] ≥ b) with
   | true => simp
   | false => simpa using ih k (i + 1) xs[i] (by omega) (by omega) (by omega)
theorem autoRises (K : Nat) (xs : List Int) (b : Int) (hl : xs.length ≤ 9223372036854775807) (hK : xs.length < K) : Mz K xs b = some (Iw xs b) := by
 have := autoRises_l0 K xs b hl xs.length K 0 (-1) (by omega) (by omega) hK
 rw [Mz]
 exact this
theorem refRises_l0 (K : Nat) (xs : List Int) (b : Int) (hl : xs.length ≤ 9223372036854775807) : ∀ (m k i : Nat) (last : Int), xs.length - i = m → i ≤ xs.length → m < k → (i = 0 → last = -1) → (∀ h : 0 < i, ∀ h2 : i ≤ xs.length, last = xs[i - 1] ∧ 0 ≤ last) → Wq K k xs b (i : Int) = some (Ch b last (xs.drop i)) := by
 intro m
 induction m with
 | zero =>
  intro k i last hm hi hk h0 h1
  obtain ⟨k, rfl⟩ : ∃ k', k = k' + 1 := ⟨k - 1, by omega⟩
  have hi' : i = xs.length := by omega
  subst hi'
  rw [Wq]
  simp only [Z7 (Nat.le_refl _), cF, List.drop_length, Ch]
 | succ m ih =>
  intro k i last hm hi hk h0 h1
  obtain ⟨k, rfl⟩ : ∃ k', k = k' + 1 := ⟨k - 1, by omega⟩
  have hlt : i < xs.length := by omega
  rw [Wq, List.drop_eq_getElem_cons hlt]
  simp only [Xc hlt, cT, Zf hlt, bS, Ch, Lz, Kz (n := i) (by omega)]
  by_cases hneg : xs[i] < 0
  ·have e1 : decide (xs[i] < 0) = true := by simp [hneg]
   have e2 : decide (xs[i] ≤ last) = true := by
    rcases Nat.eq_zero_or_pos i with hz | hz
    ·rw [h0 hz]; simp; omega
    ·have := (h1 hz hi).2; simp; omega
   simp [e1, e2]
  ·have e1 : decide (xs[i] < 0) = false := by simp; omega
   simp only [e1, cF]
   by_cases hge : xs[i] ≥ b
   ·have e3 : decide (xs[i] ≥ b) = true := by simp [hge]
    simp [e3]
   ·have e3 : decide (xs[i] ≥ b) = false := by simp; omega
    simp only [e3, cF, Bool.not_false, Bool.true_and]
    rcases Nat.eq_zero_or_pos i with hz | hz
    ·have e4 : decide ((i : Int) > 0) = false := by simp [hz]
     have e5 : decide (xs[i] ≤ last) = false := by rw [h0 hz]; simp; omega
     simp only [e4, cF, e5, Bool.not_false, Bool.true_and]
     exact ih k (i + 1) xs[i] (by omega) (by omega) (by omega) (by omega) (fun _ _ => ⟨rfl, by omega⟩)
    ·have e4 : decide ((i : Int) > 0) = true := by simp; omega
     have e6 : IntKind.i64.wrap ((i : Int) - 1) = ((i - 1 : Nat) : Int) := by rw [w64 (by omega) (by omega)]; omega
     simp only [e4, cT, e6, Zf (show i - 1 < xs.length by omega), bS]
     rw [← (h1 hz hi).1]
     by_cases hle : xs[i] ≤ last
     ·have e7 : decide (last ≥ xs[i]) = true := by simp [hle]
      have e8 : decide (xs[i] ≤ last) = true := by simp [hle]
      simp [e7, e8]
     ·have e7 : decide (last ≥ xs[i]) = false := by simp; omega
      have e8 : decide (xs[i] ≤ last) = false := by simp; omega
      simp only [e7, cF, e8, Bool.not_false, Bool.true_and]
      exact ih k (i + 1) xs[i] (by omega) (by omega) (by omega) (by omega) (fun _ _ => ⟨rfl, by omega⟩)
theorem refRises (K : Nat) (xs : List Int) (b : Int) (hl : xs.length ≤ 9223372036854775807) (hK : xs.length < K) : Ny K xs b = some (Iw xs b) := by
 have := refRises_l0 K xs b hl xs.length K 0 (-1) (by omega) (by omega) hK (fun _ => rfl) (fun h => by omega)
 rw [Ny]
 exact this
/- Codes. -/
def Ys (n : Int) : Int := if n = 0 then 1 else if n = 1 then 3 else if n = 2 then 9 else if n = 3 then 27 else 0
theorem autoCodes (K : Nat) (hK : 4 ≤ K) (n : Nat) : Gg K (n : Int) = some (Ys n) := by
 obtain ⟨K, rfl⟩ : ∃ k', K = k' + 4 := ⟨K - 4, by omega⟩
 by_cases h : n ≤ 3
 ·have : n = 0 ∨ n = 1 ∨ n = 2 ∨ n = 3 := by omega
  rcases this with rfl | rfl | rfl | rfl <;> simp [Gg, G9, Ys, IntKind.wrap_i64]
 ·have e1 : decide ((n : Int) < 0) = false := decide_eq_false (by omega)
  have e2 : decide ((n : Int) > 3) = true := by simp; omega
  have e3 : Ys n = 0 := by simp only [Ys]; (repeat rw [if_neg (by omega)])
  simp only [Gg, e1, e2, cF, cT, La, e3]
theorem refCodes (K : Nat) (hK : 4 ≤ K) (n : Nat) : Mx K (n : Int) = some (Ys n) := by
 obtain ⟨K, rfl⟩ : ∃ k', K = k' + 4 := ⟨K - 4, by omega⟩
 by_cases h : n ≤ 3
 ·have : n = 0 ∨ n = 1 ∨ n = 2 ∨ n = 3 := by omega
  rcases this with rfl | rfl | rfl | rfl <;> simp [Mx, Bt, Ys, IntKind.wrap_i64]
 ·have e1 : decide ((n : Int) < 0) = false := decide_eq_false (by omega)
  have e2 : decide ((n : Int) > 3) = true := by simp; omega
  have e3 : Ys n = 0 := by simp only [Ys]; (repeat rw [if_neg (by omega)])
  simp only [Mx, e1, e2, cF, cT, Bu, e3]
/- Is a number in a list? -/
theorem refIn_l0 (K : Nat) (xs : List Int) (v : Int) (hl : xs.length ≤ 9223372036854775807) : ∀ (m k i : Nat), xs.length - i = m → i ≤ xs.length → m < k → Ex K k xs v (i : Int) = some ((xs.drop i).contains v) := by
 intro m
 induction m with
 | zero =>
  intro k i hm hi hk
  obtain ⟨k, rfl⟩ : ∃ k', k = k' + 1 := ⟨k - 1, by omega⟩
  have hi' : i = xs.length := by omega
  subst hi'
  rw [Ex]
  simp only [Z7 (Nat.le_refl _), cF, List.drop_length, List.contains_nil]
 | succ m ih =>
  intro k i hm hi hk
  obtain ⟨k, rfl⟩ : ∃ k', k = k' + 1 := ⟨k - 1, by omega⟩
  have hlt : i < xs.length := by omega
  rw [Ex, List.drop_eq_getElem_cons hlt]
  simp only [Xc hlt, cT, Zf hlt, bS, Kz (n := i) (by omega), List.contains_cons]
  by_cases h : xs[i] = v
  ·simp [h]
  ·have e1 : (xs[i] == v) = false := by simp [h]
   have e2 : (v == xs[i]) = false := by simp; exact fun h' => h h'.symm
   simp only [e1, e2, cF, Bool.false_or]
   exact ih k (i + 1) (by omega) (by omega) (by omega)
theorem refIn (K : Nat) (xs : List Int) (v : Int) (hl : xs.length ≤ 9223372036854775807) (hK : xs.length < K) : r1_in K xs v = some (xs.contains v) := by
 have := refIn_l0 K xs v hl xs.length K 0 (by omega) (by omega) hK
 rw [r1_in]
 exact this
theorem slIndex_l0 (K : Nat) (xs : List Int) (v : Int) (hl : xs.length ≤ 9223372036854775807) : ∀ (m k i : Nat), xs.length - i = m → i ≤ xs.length → m < k → ∃ r, Xi K k xs v (xs.length : Int) (i : Int) = some r ∧ decide (r ≥ 0) = (xs.drop i).contains v := by
 intro m
 induction m with
 | zero =>
  intro k i hm hi hk
  obtain ⟨k, rfl⟩ : ∃ k', k = k' + 1 := ⟨k - 1, by omega⟩
  have hi' : i = xs.length := by omega
  subst hi'
  rw [Xi]
  exact ⟨-1, by simp only [Z7 (Nat.le_refl _), cF], by simp⟩
 | succ m ih =>
  intro k i hm hi hk
  obtain ⟨k, rfl⟩ : ∃ k', k = k' + 1 := ⟨k - 1, by omega⟩
  have hlt : i < xs.length := by omega
  rw [Xi, List.drop_eq_getElem_cons hlt]
  simp only [Xc hlt, cT, Zf hlt, bS, Kz (n := i) (by omega), List.contains_cons]
  by_cases h : v = xs[i]
  ·refine ⟨i, by simp [h], by simp [h]⟩
  ·have e2 : (v == xs[i]) = false := by simp [h]
   obtain ⟨r, h1, h2⟩ := ih k (i + 1) (by omega) (by omega) (by omega)
   exact ⟨r, by simp only [e2, cF]; exact h1, by simp only [e2, Bool.false_or]; exact h2⟩
theorem slContains (K : Nat) (xs : List Int) (v : Int) (hl : xs.length ≤ 9223372036854775807) (hK : xs.length < K) : V1 K xs v = some (xs.contains v) := by
 obtain ⟨r, h1, h2⟩ := slIndex_l0 K xs v hl xs.length K 0 (by omega) (by omega) hK
 rw [Int.natCast_zero] at h1
 rw [V1, Ho, h1]
 simpa using h2
/- Splits. -/
def Hb (a : Qx) : Nat → Nat → Int → Int → Bool
 | 0, _, n, many => n == many
 | m + 1, i, n, many => if a.f i > n then false else if a.f i = n then Hb a m (i + 1) (n + 1) many else Hb a m (i + 1) n many
def Tp (x : aSp) : Bool := Hb x.Of 256 0 0 x.Many
theorem splitF_many (a : Qx) : ∀ (m i : Nat) (n many : Int), Hb a m i n many = true → many ≤ n + m := by
 intro m
 induction m with
 | zero => intro i n many h; simp [Hb] at h; omega
 | succ m ih =>
  intro i n many h
  simp only [Hb] at h
  split at h
  ·cases h
  ·split at h
   ·have := ih _ _ _ h; omega
   ·have := ih _ _ _ h; omega
theorem autoSplit_l0 (K : Nat) (a : aSp) (hb : ∀ i, i < 256 → 0 ≤ a.Of.f i ∧ a.Of.f i < 256) : ∀ (m k i : Nat) (n : Int), 256 - i = m → i ≤ 256 → m < k → 0 ≤ n → n ≤ i → Vz K k n a (i : Int) = some (Hb a.Of m i n a.Many) := by
 intro m
 induction m with
 | zero =>
  intro k i n hm hi hk h0 h1
  obtain ⟨k, rfl⟩ : ∃ k', k = k' + 1 := ⟨k - 1, by omega⟩
  have hi' : i = 256 := by omega
  subst hi'
  rw [Vz]
  simp [Hb]
 | succ m ih =>
  intro k i n hm hi hk h0 h1
  obtain ⟨k, rfl⟩ : ∃ k', k = k' + 1 := ⟨k - 1, by omega⟩
  have hlt : i < 256 := by omega
  obtain ⟨b0, b1⟩ := hb i hlt
  have hg : IntKind.i64.wrap (Qx.get a.Of (i : Int)) = a.Of.f i := by
   simp only [Qx.get, Int.toNat_natCast]
   exact w64 (by omega) (by omega)
  have e0 : decide ((i : Int) < 256) = true := by simp; omega
  have e9 : IntKind.i64.wrap (n + 1) = n + 1 := w64 (by omega) (by omega)
  rw [Vz]
  simp only [e0, cT, Z1 (show 0 ≤ (i : Int) ∧ (i : Int) < 256 by omega), hg, Hb, Kz (n := i) (by omega), e9]
  by_cases h2 : a.Of.f i > n
  ·simp [h2]
  ·have e1 : decide (a.Of.f i > n) = false := by simp; omega
   simp only [e1, cF, if_neg h2]
   by_cases h3 : a.Of.f i = n
   ·have e2 : (a.Of.f i == n) = true := by simp [h3]
    simp only [e2, cT, if_pos h3]
    exact ih k (i + 1) (n + 1) (by omega) (by omega) (by omega) (by omega) (by omega)
   ·have e2 : (a.Of.f i == n) = false := by simp [h3]
    simp only [e2, cF, if_neg h3]
    exact ih k (i + 1) n (by omega) (by omega) (by omega) (by omega) (by omega)
theorem refSplit_l0 (K : Nat) (a : aSp) (hb : ∀ i, i < 256 → 0 ≤ a.Of.f i ∧ a.Of.f i < 256) : ∀ (m k i : Nat) (n : Int), 256 - i = m → i ≤ 256 → m < k → 0 ≤ n → n ≤ i → Yi K k n (i : Int) a = some (Hb a.Of m i n a.Many) := by
 intro m
 induction m with
 | zero =>
  intro k i n hm hi hk h0 h1
  obtain ⟨k, rfl⟩ : ∃ k', k = k' + 1 := ⟨k - 1, by omega⟩
  have hi' : i = 256 := by omega
  subst hi'
  rw [Yi]
  simp [Hb]
 | succ m ih =>
  intro k i n hm hi hk h0 h1
  obtain ⟨k, rfl⟩ : ∃ k', k = k' + 1 := ⟨k - 1, by omega⟩
  have hlt : i < 256 := by omega
  obtain ⟨b0, b1⟩ := hb i hlt
  have hg : IntKind.i64.wrap (Qx.get a.Of (i : Int)) = a.Of.f i := by
   simp only [Qx.get, Int.toNat_natCast]
   exact w64 (by omega) (by omega)
  have e0 : decide ((i : Int) < 256) = true := by simp; omega
  have e9 : IntKind.i64.wrap (n + 1) = n + 1 := w64 (by omega) (by omega)
  rw [Yi]
  simp only [e0, cT, Z1 (show 0 ≤ (i : Int) ∧ (i : Int) < 256 by omega), hg, Hb, Kz (n := i) (by omega), e9]
  by_cases h2 : a.Of.f i > n
  ·simp [h2]
  ·have e1 : decide (a.Of.f i > n) = false := by simp; omega
   simp only [e1, cF, if_neg h2]
   by_cases h3 : a.Of.f i = n
   ·have e2 : (a.Of.f i == n) = true := by simp [h3]
    simp only [e2, cT, if_pos h3]
    exact ih k (i + 1) (n + 1) (by omega) (by omega) (by omega) (by omega) (by omega)
   ·have e2 : (a.Of.f i == n) = false := by simp [h3]
    simp only [e2, cF, if_neg h3]
    exact ih k (i + 1) n (by omega) (by omega) (by omega) (by omega) (by omega)
theorem autoSplit (K : Nat) (hK : 257 ≤ K) (a : aSp) (hb : ∀ i, i < 256 → 0 ≤ a.Of.f i ∧ a.Of.f i < 256) : M9 K a = some (Tp a) := by
 have := autoSplit_l0 K a hb 256 K 0 0 (by omega) (by omega) (by omega) (by omega) (by omega)
 rw [M9]; exact this
theorem refSplit (K : Nat) (hK : 257 ≤ K) (a : aSp) (hb : ∀ i, i < 256 → 0 ≤ a.Of.f i ∧ a.Of.f i < 256) : Ja K a = some (Tp a) := by
 have := refSplit_l0 K a hb 256 K 0 0 (by omega) (by omega) (by omega) (by omega) (by omega)
 rw [Ja]; exact this
end Go.Rv
namespace Go.Rv
def Fp (p : Nat → Bool) : Nat → Nat → Bool
 | 0, _ => true
 | m + 1, i => p i && Fp p m (i + 1)
theorem E7 {p : Nat → Bool} : ∀ {m i : Nat}, Fp p m i = true ↔ ∀ j, i ≤ j → j < i + m → p j = true := by
 intro m
 induction m with
 | zero => intro i; simp [Fp]; omega
 | succ m ih =>
  intro i
  simp only [Fp, Bool.and_eq_true, ih]
  constructor
  ·rintro ⟨h0, h1⟩ j h2 h3
   by_cases h : j = i
   ·subst h; exact h0
   ·exact h1 j (by omega) (by omega)
  ·intro h
   exact ⟨h i (by omega) (by omega), fun j h2 h3 => h j (by omega) (by omega)⟩
theorem Kc {β : Type} (F : Nat → Nat → Option β) (n : Nat) (p : Nat → Bool) (fin bad : Option β) (hs : ∀ k i, i < n → F (k + 1) i = if p i = true then F k (i + 1) else bad) (he : ∀ k, F (k + 1) n = fin) :
  ∀ (m k i : Nat), n - i = m → i ≤ n → m < k → F k i = if Fp p m i = true then fin else bad := by
 intro m
 induction m with
 | zero =>
  intro k i hm hi hk
  obtain ⟨k, rfl⟩ : ∃ k', k = k' + 1 := ⟨k - 1, by omega⟩
  have : i = n := by omega
  subst this
  rw [he]
  simp [Fp]
 | succ m ih =>
  intro k i hm hi hk
  obtain ⟨k, rfl⟩ : ∃ k', k = k' + 1 := ⟨k - 1, by omega⟩
  rw [hs k i (by omega), ih k (i + 1) (by omega) (by omega) (by omega)]
  cases hp : p i with
  | true => simp [Fp, hp]
  | false => simp [Fp, hp]
def stR (a : aAu) (m : aMv) : List Int := ((a.States[m.To.toNat]?).map (·.R)).getD []
def opP (a : aAu) (s : aSt) (m : aMv) (i : Nat) : Bool := decide (1 ≤ m.Ops.getD i 0) && (decide (m.Ops.getD i 0 ≤ 3) && (m.Ops.getD i 0 == 3 || s.R.contains ((stR a m).getD i 0)))
def F8 (a : aAu) (s : aSt) (m : aMv) : Bool :=
 if m.To = -1 then m.Ops.length == 0 else decide (1 ≤ m.To) && (decide (m.To < a.States.length) && (m.Ops.length == (stR a m).length && Fp (opP a s m) m.Ops.length 0))
def rowP (a : aAu) (s : aSt) (c : Nat) : Bool :=
 decide (-1 ≤ s.Rule.getD c 0) && (decide (s.Rule.getD c 0 < 512) && (((s.Next.getD c []).length : Int) == a.Split.Many && Fp (fun k => F8 a s ((s.Next.getD c []).getD k ⟨0, []⟩)) (s.Next.getD c []).length 0))
def Ha (a : aAu) (s : aSt) : Bool :=
 !(Ys s.R.length == 0) && (((s.Rule.length : Int) == Ys s.R.length) && (((s.Next.length : Int) == Ys s.R.length) && (Iw s.L 512 && (Iw s.R a.Counts.length && Fp (rowP a s) s.Next.length 0))))
def cntP (c : Zb) : Bool := !(decide (c.a0 < 1)) && (!(decide (c.a0 > c.a1)) && (!(decide (c.a1 < 2)) && !(decide (c.a1 > 4096))))
def Fi (a : aAu) : Bool :=
 Tp a.Split && (!(decide ((a.Counts.length : Int) > 512)) && (!(decide ((a.States.length : Int) < 1)) && (!(decide ((a.States.length : Int) > 256)) && ((((a.States.getD 0 ⟨[], [], [], []⟩).L.length == 0) && ((a.States.getD 0 ⟨[], [], [], []⟩).R.length == 0)) &&
  (Fp (fun i => cntP (a.Counts.getD i ⟨0, 0⟩)) a.Counts.length 0 && Fp (fun i => Ha a (a.States.getD i ⟨[], [], [], []⟩)) a.States.length 0)))))
theorem Ye {α : Type} {l : List α} {i : Nat} {d : α} (h : i < l.length) : l.getD i d = l[i] := by simp [List.getD, h]
structure Qah (a : aAu) : Prop where
 split : ∀ i, i < 256 → 0 ≤ a.Split.Of.f i ∧ a.Split.Of.f i < 256
 counts : a.Counts.length ≤ 9223372036854775807
 states : a.States.length ≤ 9223372036854775807
 st : ∀ s ∈ a.States, s.L.length ≤ 9223372036854775807 ∧ s.R.length ≤ 9223372036854775807 ∧ s.Rule.length ≤ 9223372036854775807 ∧ s.Next.length ≤ 9223372036854775807 ∧ ∀ r ∈ s.Next, r.length ≤ 9223372036854775807 ∧ ∀ m ∈ r, m.Ops.length ≤ 9223372036854775807
def D4 (a : aAu) (K : Nat) : Prop := 300 ≤ K ∧ a.Counts.length < K ∧ a.States.length < K ∧ ∀ s ∈ a.States, s.L.length < K ∧ s.R.length < K ∧ s.Next.length < K ∧ ∀ r ∈ s.Next, r.length < K ∧ ∀ m ∈ r, m.Ops.length < K
theorem autoMove (K : Nat) (a : aAu) (s : aSt) (m : aMv) (hK : D4 a K) (hs : s.R.length < K ∧ s.R.length ≤ 9223372036854775807) (hm : m.Ops.length < K ∧ m.Ops.length ≤ 9223372036854775807) : Ji K ⟨a⟩ s m = some (F8 a s m) := by
 rw [Ji, F8]
 by_cases h1 : m.To = -1
 ·have e1 : (m.To == -1) = true := by simp [h1]
  simp only [e1, cT, if_pos h1]
  refine congrArg some ?_
  by_cases h : m.Ops.length = 0
  ·simp [h]
  ·have f1 : ((m.Ops.length : Int) == 0) = false := beq_eq_false_iff_ne.2 (by omega)
   have f2 : (m.Ops.length == 0) = false := beq_eq_false_iff_ne.2 h
   rw [f1, f2]
 ·have e1 : (m.To == -1) = false := by simp [h1]
  simp only [e1, cF, if_neg h1]
  by_cases h2 : m.To < 1
  ·have e2 : decide (m.To < 1) = true := by simp [h2]
   have e3 : decide (1 ≤ m.To) = false := by simp; omega
   simp [e2, e3, Yl]
  ·have e2 : decide (m.To < 1) = false := by simp; omega
   have e3 : decide (1 ≤ m.To) = true := by simp; omega
   simp only [e2, cF, e3, Bool.true_and]
   by_cases h3 : m.To ≥ (a.States.length : Int)
   ·have e4 : decide (m.To ≥ (a.States.length : Int)) = true := by simp [h3]
    have e5 : decide (m.To < (a.States.length : Int)) = false := by simp; omega
    simp [e4, e5, Yl]
   ·have e4 : decide (m.To ≥ (a.States.length : Int)) = false := by simp; omega
    have e5 : decide (m.To < (a.States.length : Int)) = true := by simp; omega
    have hto : m.To.toNat < a.States.length := by omega
    have hg : X4 a.States m.To = some a.States[m.To.toNat] := by
     have := Zf hto
     rwa [Int.toNat_of_nonneg (by omega)] at this
    have hR : stR a m = a.States[m.To.toNat].R := by simp [stR, hto]
    simp only [e4, cF, e5, Bool.true_and, hg, bS]
    rw [← hR]
    by_cases h6 : m.Ops.length = (stR a m).length
    ·have e6 : ((m.Ops.length : Int) != ((stR a m).length : Int)) = false := by simp [h6]
     have e7 : (m.Ops.length == (stR a m).length) = true := by simp [h6]
     simp only [e6, cF, e7, Bool.true_and]
     have := Kc (fun k i => Yj K k m (m.Ops.length : Int) (i : Int) ⟨a⟩ s) m.Ops.length (opP a s m) (some true) (some false) (fun k i hi => by
      have hi2 : i < (stR a m).length := by omega
      have hi3 : i < a.States[m.To.toNat].R.length := by rw [← hR]; exact hi2
      rw [Yj]
      simp only [Xc hi, cT, Zf hi, bS, Kz (n := i) (by omega), opP, Ye hi, Ye hi2, hg, Zf hi3]
      by_cases g1 : m.Ops[i] < 1
      ·have f1 : decide (m.Ops[i] < 1) = true := by simp [g1]
       have f2 : decide (1 ≤ m.Ops[i]) = false := by simp; omega
       simp [f1, f2, Yk]
      ·have f1 : decide (m.Ops[i] < 1) = false := by simp; omega
       have f2 : decide (1 ≤ m.Ops[i]) = true := by simp; omega
       simp only [f1, cF, f2, Bool.true_and]
       by_cases g2 : m.Ops[i] > 3
       ·have f3 : decide (m.Ops[i] > 3) = true := by simp [g2]
        have f4 : decide (m.Ops[i] ≤ 3) = false := by simp; omega
        simp [f3, f4, Yk]
       ·have f3 : decide (m.Ops[i] > 3) = false := by simp; omega
        have f4 : decide (m.Ops[i] ≤ 3) = true := by simp; omega
        simp only [f3, cF, f4, Bool.true_and]
        by_cases g3 : m.Ops[i] = 3
        ·simp [g3]
        ·have f5 : (m.Ops[i] != 3) = true := by simp [g3]
         have f6 : (m.Ops[i] == 3) = false := by simp [g3]
         have hR2 : a.States[m.To.toNat].R[i] = (stR a m)[i] := by simp only [hR]
         simp only [f5, cT, f6, Bool.false_or, slContains K s.R _ hs.2 hs.1, bS, hR2]
         cases s.R.contains (stR a m)[i] <;> simp [Yk]) (fun k => by rw [Yj]; simp only [Z7 (Nat.le_refl _), cF]) m.Ops.length K 0 (by omega) (by omega) hm.1
     simp only [Int.natCast_zero] at this
     rw [this]
     cases Fp (opP a s m) m.Ops.length 0 <;> simp
    ·have e6 : ((m.Ops.length : Int) != ((stR a m).length : Int)) = true := by simp; omega
     have e7 : (m.Ops.length == (stR a m).length) = false := by simp [h6]
     simp [e6, e7, Yl]
theorem refMove (K : Nat) (a : aAu) (s : aSt) (m : aMv) (hK : D4 a K) (hs : s.R.length < K ∧ s.R.length ≤ 9223372036854775807) (hm : m.Ops.length < K ∧ m.Ops.length ≤ 9223372036854775807) : Qaw K a s m = some (F8 a s m) := by
 rw [Qaw, F8]
 by_cases h1 : m.To = -1
 ·have e1 : (m.To == -1) = true := by simp [h1]
  simp only [e1, cT, if_pos h1]
  refine congrArg some ?_
  by_cases h : m.Ops.length = 0
  ·simp [h]
  ·have f1 : ((m.Ops.length : Int) == 0) = false := beq_eq_false_iff_ne.2 (by omega)
   have f2 : (m.Ops.length == 0) = false := beq_eq_false_iff_ne.2 h
   rw [f1, f2]
 ·have e1 : (m.To == -1) = false := by simp [h1]
  simp only [e1, cF, if_neg h1]
  by_cases h2 : m.To < 1
  ·have e2 : decide (m.To < 1) = true := by simp [h2]
   have e3 : decide (1 ≤ m.To) = false := by simp; omega
   simp [e2, e3, Gc]
  ·have e2 : decide (m.To < 1) = false := by simp; omega
   have e3 : decide (1 ≤ m.To) = true := by simp; omega
   simp only [e2, cF, e3, Bool.true_and]
   by_cases h3 : m.To ≥ (a.States.length : Int)
   ·have e4 : decide (m.To ≥ (a.States.length : Int)) = true := by simp [h3]
    have e5 : decide (m.To < (a.States.length : Int)) = false := by simp; omega
    simp [e4, e5, Gc]
   ·have e4 : decide (m.To ≥ (a.States.length : Int)) = false := by simp; omega
    have e5 : decide (m.To < (a.States.length : Int)) = true := by simp; omega
    have hto : m.To.toNat < a.States.length := by omega
    have hg : X4 a.States m.To = some a.States[m.To.toNat] := by
     have := Zf hto
     rwa [Int.toNat_of_nonneg (by omega)] at this
    have hR : stR a m = a.States[m.To.toNat].R := by simp [stR, hto]
    simp only [e4, cF, e5, Bool.true_and, hg, bS]
    rw [← hR]
    by_cases h6 : m.Ops.length = (stR a m).length
    ·have e6 : ((m.Ops.length : Int) != ((stR a m).length : Int)) = false := by simp [h6]
     have e7 : (m.Ops.length == (stR a m).length) = true := by simp [h6]
     simp only [e6, cF, e7, Bool.true_and]
     have := Kc (fun k i => Ga K k (i : Int) a s m) m.Ops.length (opP a s m) (some true) (some false) (fun k i hi => by
      have hi2 : i < (stR a m).length := by omega
      have hi3 : i < a.States[m.To.toNat].R.length := by rw [← hR]; exact hi2
      rw [Ga]
      simp only [Xc hi, cT, Zf hi, bS, Kz (n := i) (by omega), opP, Ye hi, Ye hi2, hg, Zf hi3]
      by_cases g1 : m.Ops[i] < 1
      ·have f1 : decide (m.Ops[i] < 1) = true := by simp [g1]
       have f2 : decide (1 ≤ m.Ops[i]) = false := by simp; omega
       simp [f1, f2, Gb]
      ·have f1 : decide (m.Ops[i] < 1) = false := by simp; omega
       have f2 : decide (1 ≤ m.Ops[i]) = true := by simp; omega
       simp only [f1, cF, f2, Bool.true_and]
       by_cases g2 : m.Ops[i] > 3
       ·have f3 : decide (m.Ops[i] > 3) = true := by simp [g2]
        have f4 : decide (m.Ops[i] ≤ 3) = false := by simp; omega
        simp [f3, f4, Gb]
       ·have f3 : decide (m.Ops[i] > 3) = false := by simp; omega
        have f4 : decide (m.Ops[i] ≤ 3) = true := by simp; omega
        simp only [f3, cF, f4, Bool.true_and]
        by_cases g3 : m.Ops[i] = 3
        ·simp [g3]
        ·have f5 : (m.Ops[i] != 3) = true := by simp [g3]
         have f6 : (m.Ops[i] == 3) = false := by simp [g3]
         have hR2 : a.States[m.To.toNat].R[i] = (stR a m)[i] := by simp only [hR]
         simp only [f5, cT, f6, Bool.false_or, refIn K s.R _ hs.2 hs.1, bS, hR2]
         cases s.R.contains (stR a m)[i] <;> simp [Gb]) (fun k => by rw [Ga]; simp only [Z7 (Nat.le_refl _), cF]) m.Ops.length K 0 (by omega) (by omega) hm.1
     simp only [Int.natCast_zero] at this
     rw [this]
     cases Fp (opP a s m) m.Ops.length 0 <;> simp
    ·have e6 : ((m.Ops.length : Int) != ((stR a m).length : Int)) = true := by simp; omega
     have e7 : (m.Ops.length == (stR a m).length) = false := by simp [h6]
     simp [e6, e7, Gc]
end Go.Rv
namespace Go.Rv
theorem findLoop (F : Nat → Nat → Option Int) (n : Nat) (p : Nat → Bool) (hs : ∀ k i, i < n → F (k + 1) i = if p i = true then F k (i + 1) else some (i : Int)) (he : ∀ k, F (k + 1) n = some (-1)) :
  ∀ (m k i : Nat), n - i = m → i ≤ n → m < k → ∃ r, F k i = some r ∧ decide (r ≥ 0) = !Fp p m i := by
 intro m
 induction m with
 | zero =>
  intro k i hm hi hk
  obtain ⟨k, rfl⟩ : ∃ k', k = k' + 1 := ⟨k - 1, by omega⟩
  have : i = n := by omega
  subst this
  exact ⟨-1, he k, by simp [Fp]⟩
 | succ m ih =>
  intro k i hm hi hk
  obtain ⟨k, rfl⟩ : ∃ k', k = k' + 1 := ⟨k - 1, by omega⟩
  rw [hs k i (by omega)]
  cases hp : p i with
  | true =>
   obtain ⟨r, h1, h2⟩ := ih k (i + 1) (by omega) (by omega) (by omega)
   exact ⟨r, by simp [h1], by simpa [Fp, hp] using h2⟩
  | false => exact ⟨i, by simp, by simp [Fp, hp]⟩
def mvOk (K : Nat) (r : List aMv) : Prop := r.length < K ∧ r.length ≤ 9223372036854775807 ∧ ∀ m ∈ r, m.Ops.length < K ∧ m.Ops.length ≤ 9223372036854775807
def stOk (K : Nat) (s : aSt) : Prop := (s.L.length < K ∧ s.L.length ≤ 9223372036854775807) ∧ (s.R.length < K ∧ s.R.length ≤ 9223372036854775807) ∧ s.Rule.length ≤ 9223372036854775807 ∧ (s.Next.length < K ∧ s.Next.length ≤ 9223372036854775807) ∧ ∀ r ∈ s.Next, mvOk K r
theorem autoRow (K : Nat) (a : aAu) (s : aSt) (row : List aMv) (hK : D4 a K) (hs : stOk K s) (hr : mvOk K row) : Xk K row ⟨a⟩ s = some (!Fp (fun k => F8 a s (row.getD k ⟨0, []⟩)) row.length 0) := by
 obtain ⟨r, h1, h2⟩ := findLoop (fun k i => Z8 K k row (row.length : Int) (i : Int) ⟨a⟩ s) row.length (fun k => F8 a s (row.getD k ⟨0, []⟩)) (fun k i hi => by
  have hm := hr.2.2 row[i] (List.getElem_mem hi)
  have hl := hr.2.1
  rw [Z8]
  simp only [Xc hi, cT, Zf hi, bS, Kz (n := i) (by omega), Ye hi, U7, autoMove K a s row[i] hK hs.2.1 hm]
  cases F8 a s row[i] <;> simp) (fun k => by rw [Z8]; simp only [Z7 (Nat.le_refl _), cF]) row.length K 0 (by omega) (by omega) hr.1
 rw [Int.natCast_zero] at h1
 rw [Xk, Ui, h1, bS, h2]
theorem autoState (K : Nat) (a : aAu) (s : aSt) (hK : D4 a K) (hc : a.Counts.length ≤ 9223372036854775807) (hs : stOk K s) : Up K ⟨a⟩ s = some (Ha a s) := by
 have hK' := hK.1
 rw [Up, autoCodes K (by omega), bS, Ha]
 by_cases h1 : Ys s.R.length = 0
 ·simp [h1, Zp]
 ·have e1 : (Ys (s.R.length : Int) == 0) = false := beq_eq_false_iff_ne.2 h1
  simp only [e1, cF, Bool.not_false, Bool.true_and]
  by_cases h2 : (s.Rule.length : Int) = Ys s.R.length
  ·have e2 : ((s.Rule.length : Int) != Ys s.R.length) = false := by simp [h2]
   have e2' : ((s.Rule.length : Int) == Ys s.R.length) = true := by simp [h2]
   simp only [e2, cF, e2', Bool.true_and]
   by_cases h3 : (s.Next.length : Int) = Ys s.R.length
   ·have e3 : ((s.Next.length : Int) != Ys s.R.length) = false := by simp [h3]
    have e3' : ((s.Next.length : Int) == Ys s.R.length) = true := by simp [h3]
    simp only [e3, cF, e3', Bool.true_and, autoRises K s.L 512 hs.1.2 hs.1.1, autoRises K s.R _ hs.2.1.2 hs.2.1.1, bS]
    cases h4 : Iw s.L 512 with
    | false => simp [Zp]
    | true =>
     cases h5 : Iw s.R (a.Counts.length : Int) with
     | false => simp [Zp]
     | true =>
      simp only [Bool.not_true, cF, Bool.true_and]
      have := Kc (fun k i => Y0 K k s (s.Next.length : Int) (i : Int) ⟨a⟩) s.Next.length (rowP a s) (some true) (some false) (fun k i hi => by
       have hi2 : i < s.Rule.length := by omega
       have hrow := hs.2.2.2.2 s.Next[i] (List.getElem_mem hi)
       have hl := hs.2.2.2.1.2
       rw [Y0]
       simp only [Xc hi, cT, Zf hi, Zf hi2, bS, Kz (n := i) (by omega), rowP, Ye hi, Ye hi2]
       by_cases g1 : s.Rule[i] < -1
       ·have f1 : decide (s.Rule[i] < -1) = true := by simp [g1]
        have f2 : decide (-1 ≤ s.Rule[i]) = false := by simp; omega
        simp [f1, f2, Yb]
       ·have f1 : decide (s.Rule[i] < -1) = false := by simp; omega
        have f2 : decide (-1 ≤ s.Rule[i]) = true := by simp; omega
        simp only [f1, cF, f2, Bool.true_and]
        by_cases g2 : s.Rule[i] ≥ 512
        ·have f3 : decide (s.Rule[i] ≥ 512) = true := by simp [g2]
         have f4 : decide (s.Rule[i] < 512) = false := by simp; omega
         simp [f3, f4, Yb]
        ·have f3 : decide (s.Rule[i] ≥ 512) = false := by simp; omega
         have f4 : decide (s.Rule[i] < 512) = true := by simp; omega
         simp only [f3, cF, f4, Bool.true_and]
         by_cases g3 : (s.Next[i].length : Int) = a.Split.Many
         ·have f5 : ((s.Next[i].length : Int) != a.Split.Many) = false := by simp [g3]
          have f6 : ((s.Next[i].length : Int) == a.Split.Many) = true := by simp [g3]
          simp only [f5, cF, f6, Bool.true_and, autoRow K a s s.Next[i] hK hs hrow, bS]
          cases Fp (fun k => F8 a s (s.Next[i].getD k ⟨0, []⟩)) s.Next[i].length 0 <;> simp
         ·have f5 : ((s.Next[i].length : Int) != a.Split.Many) = true := by simp [g3]
          have f6 : ((s.Next[i].length : Int) == a.Split.Many) = false := by simp [g3]
          simp [f5, f6, Yb]) (fun k => by rw [Y0]; simp only [Z7 (Nat.le_refl _), cF]) s.Next.length K 0 (by omega) (by omega) hs.2.2.2.1.1
      simp only [Int.natCast_zero] at this
      rw [this]
      cases Fp (rowP a s) s.Next.length 0 <;> simp
   ·have e3 : ((s.Next.length : Int) != Ys s.R.length) = true := by simp [h3]
    have e3' : ((s.Next.length : Int) == Ys s.R.length) = false := by simp [h3]
    simp [e3, e3', Zp]
  ·have e2 : ((s.Rule.length : Int) != Ys s.R.length) = true := by simp [h2]
   have e2' : ((s.Rule.length : Int) == Ys s.R.length) = false := by simp [h2]
   simp [e2, e2', Zp]
theorem refState (K : Nat) (a : aAu) (s : aSt) (hK : D4 a K) (hc : a.Counts.length ≤ 9223372036854775807) (hs : stOk K s) : R2 K a s = some (Ha a s) := by
 have hK' := hK.1
 rw [R2, refCodes K (by omega), bS, Ha]
 by_cases h1 : Ys s.R.length = 0
 ·simp [h1, Vn]
 ·have e1 : (Ys (s.R.length : Int) == 0) = false := beq_eq_false_iff_ne.2 h1
  simp only [e1, cF, Bool.not_false, Bool.true_and, refRises K s.L 512 hs.1.2 hs.1.1, refRises K s.R _ hs.2.1.2 hs.2.1.1, bS]
  cases h4 : Iw s.L 512 with
  | false => simp [Vn]
  | true =>
   cases h5 : Iw s.R (a.Counts.length : Int) with
   | false => simp [Vn]
   | true =>
    simp only [Bool.not_true, cF, Bool.true_and]
    by_cases h2 : (s.Rule.length : Int) = Ys s.R.length
    ·have e2 : ((s.Rule.length : Int) != Ys s.R.length) = false := by simp [h2]
     have e2' : ((s.Rule.length : Int) == Ys s.R.length) = true := by simp [h2]
     simp only [e2, cF, e2', Bool.true_and]
     by_cases h3 : (s.Next.length : Int) = Ys s.R.length
     ·have e3 : ((s.Next.length : Int) != Ys s.R.length) = false := by simp [h3]
      have e3' : ((s.Next.length : Int) == Ys s.R.length) = true := by simp [h3]
      simp only [e3, cF, e3', Bool.true_and]
      rw [← h3]
      have := Kc (fun k i => Ux K k (s.Next.length : Int) (i : Int) a s) s.Next.length (rowP a s) (some true) (some false) (fun k i hi => by
       have hi2 : i < s.Rule.length := by omega
       have hrow := hs.2.2.2.2 s.Next[i] (List.getElem_mem hi)
       have hl := hs.2.2.2.1.2
       rw [Ux]
       simp only [Xc hi, cT, Zf hi, Zf hi2, bS, rowP, Ye hi, Ye hi2]
       by_cases g1 : s.Rule[i] < -1
       ·have f1 : decide (s.Rule[i] < -1) = true := by simp [g1]
        have f2 : decide (-1 ≤ s.Rule[i]) = false := by simp; omega
        simp [f1, f2, Wp]
       ·have f1 : decide (s.Rule[i] < -1) = false := by simp; omega
        have f2 : decide (-1 ≤ s.Rule[i]) = true := by simp; omega
        simp only [f1, cF, f2, Bool.true_and]
        by_cases g2 : s.Rule[i] ≥ 512
        ·have f3 : decide (s.Rule[i] ≥ 512) = true := by simp [g2]
         have f4 : decide (s.Rule[i] < 512) = false := by simp; omega
         simp [f3, f4, Wp]
        ·have f3 : decide (s.Rule[i] ≥ 512) = false := by simp; omega
         have f4 : decide (s.Rule[i] < 512) = true := by simp; omega
         simp only [f3, cF, f4, Bool.true_and]
         by_cases g3 : (s.Next[i].length : Int) = a.Split.Many
         ·have f5 : ((s.Next[i].length : Int) != a.Split.Many) = false := by simp [g3]
          have f6 : ((s.Next[i].length : Int) == a.Split.Many) = true := by simp [g3]
          simp only [f5, cF, f6, Bool.true_and]
          have inner := Kc (fun k' j => Hy K (Ux K k) k' (s.Next.length : Int) (i : Int) (j : Int) s (i : Int) s.Rule[i] s.Rule[i] false (i : Int) s.Next[i] s.Next[i] (s.Next[i].length : Int) a false) s.Next[i].length (fun k => F8 a s (s.Next[i].getD k ⟨0, []⟩))
           (Ux K k (s.Next.length : Int) ((i + 1 : Nat) : Int) a s) (some false) (fun k' j hj => by
            have hm := hrow.2.2 s.Next[i][j] (List.getElem_mem hj)
            have hl2 := hrow.2.1
            rw [Hy]
            simp only [Zf hi, bS, Xc hj, cT, Zf hj, Kz (n := j) (by omega), Ye hj, refMove K a s s.Next[i][j] hK hs.2.1 hm]
            cases F8 a s s.Next[i][j] <;> simp) (fun k' => by rw [Hy]; simp only [Zf hi, bS, Z7 (Nat.le_refl _), cF, Kz (n := i) (by omega)]) s.Next[i].length K 0 (by omega) (by omega) hrow.1
          simp only [Int.natCast_zero] at inner
          rw [inner]
         ·have f5 : ((s.Next[i].length : Int) != a.Split.Many) = true := by simp [g3]
          have f6 : ((s.Next[i].length : Int) == a.Split.Many) = false := by simp [g3]
          simp [f5, f6, Wp]) (fun k => by rw [Ux]; simp only [Z7 (Nat.le_refl _), cF]) s.Next.length K 0 (by omega) (by omega) hs.2.2.2.1.1
      simp only [Int.natCast_zero] at this
      rw [this]
      cases Fp (rowP a s) s.Next.length 0 <;> simp
     ·have e3 : ((s.Next.length : Int) != Ys s.R.length) = true := by simp [h3]
      have e3' : ((s.Next.length : Int) == Ys s.R.length) = false := by simp [h3]
      simp [e3, e3', Vn]
    ·have e2 : ((s.Rule.length : Int) != Ys s.R.length) = true := by simp [h2]
     have e2' : ((s.Rule.length : Int) == Ys s.R.length) = false := by simp [h2]
     simp [e2, e2', Vn]
theorem Qah.stOk {a : aAu} (h : Qah a) {K : Nat} (hK : D4 a K) {s : aSt} (hs : s ∈ a.States) : stOk K s := by
 obtain ⟨h1, h2, h3, h4, h5⟩ := h.st s hs
 obtain ⟨k1, k2, k3, k4⟩ := hK.2.2.2 s hs
 exact ⟨⟨k1, h1⟩, ⟨k2, h2⟩, h3, ⟨k3, h4⟩, fun r hr => ⟨(k4 r hr).1, (h5 r hr).1, fun m hm => ⟨(k4 r hr).2 m hm, (h5 r hr).2 m hm⟩⟩⟩
theorem cnt_loop (c : Zb) {β : Type} (x y : Option β) : (bif decide ((Zb.get c (0 : Int)) < (1 : Int)) then y else bif decide ((Zb.get c (0 : Int)) > (Zb.get c (1 : Int))) then y else bif decide ((Zb.get c (1 : Int)) < (2 : Int)) then y else bif decide ((Zb.get c (1 : Int)) > (4096 : Int)) then y else x) = if cntP c = true then x else y := by
 have g0 : Zb.get c 0 = c.a0 := rfl
 have g1 : Zb.get c 1 = c.a1 := rfl
 rw [g0, g1, cntP]
 cases decide (c.a0 < 1) <;> cases decide (c.a0 > c.a1) <;> cases decide (c.a1 < 2) <;> cases decide (c.a1 > 4096) <;> simp
theorem autoTail (K : Nat) (a : aAu) (h : Qah a) (hK : D4 a K) : Uq K K a (a.Counts.length : Int) 0 = some (Fp (fun i => cntP (a.Counts.getD i ⟨0, 0⟩)) a.Counts.length 0 && Fp (fun i => Ha a (a.States.getD i ⟨[], [], [], []⟩)) a.States.length 0) := by
 have hc := h.counts
 have hs := h.states
 obtain ⟨r, h1, h2⟩ := findLoop (fun k i => Zy K k a.States (a.States.length : Int) (i : Int) ⟨a⟩) a.States.length (fun i => Ha a (a.States.getD i ⟨[], [], [], []⟩)) (fun k i hi => by
  have hm := h.stOk hK (List.getElem_mem hi)
  rw [Zy]
  simp only [Xc hi, cT, Zf hi, bS, Kz (n := i) (by omega), Ye hi, Cu, autoState K a a.States[i] hK hc hm]
  cases Ha a a.States[i] <;> simp) (fun k => by rw [Zy]; simp only [Z7 (Nat.le_refl _), cF]) a.States.length K 0 (by omega) (by omega) hK.2.2.1
 rw [Int.natCast_zero] at h1
 have e : (Xb K a.States ⟨a⟩) = some (!Fp (fun i => Ha a (a.States.getD i ⟨[], [], [], []⟩)) a.States.length 0) := by
  rw [Xb, Ud, h1, bS, h2]
 have := Kc (fun k i => Uq K k a (a.Counts.length : Int) (i : Int)) a.Counts.length (fun i => cntP (a.Counts.getD i ⟨0, 0⟩)) (some (Fp (fun i => Ha a (a.States.getD i ⟨[], [], [], []⟩)) a.States.length 0)) (some false) (fun k i hi => by
  rw [Uq]
  simp only [Xc hi, cT, Zf hi, bS, Kz (n := i) (by omega), Ye hi, Jx]
  exact cnt_loop _ _ _) (fun k => by rw [Uq]; simp only [Z7 (Nat.le_refl _), cF, e, bS, Bool.not_not]) a.Counts.length K 0 (by omega) (by omega) hK.2.1
 simp only [Int.natCast_zero] at this
 rw [this]
 cases Fp (fun i => cntP (a.Counts.getD i ⟨0, 0⟩)) a.Counts.length 0 <;> simp
theorem refTail (K : Nat) (a : aAu) (h : Qah a) (hK : D4 a K) : Wt K K 0 a = some (Fp (fun i => cntP (a.Counts.getD i ⟨0, 0⟩)) a.Counts.length 0 && Fp (fun i => Ha a (a.States.getD i ⟨[], [], [], []⟩)) a.States.length 0) := by
 have hc := h.counts
 have hs := h.states
 have e := Kc (fun k i => H1 K k (i : Int) a) a.States.length (fun i => Ha a (a.States.getD i ⟨[], [], [], []⟩)) (some true) (some false) (fun k i hi => by
  have hm := h.stOk hK (List.getElem_mem hi)
  rw [H1]
  simp only [Xc hi, cT, Zf hi, bS, Kz (n := i) (by omega), Ye hi, refState K a a.States[i] hK hc hm]
  cases Ha a a.States[i] <;> simp) (fun k => by rw [H1]; simp only [Z7 (Nat.le_refl _), cF]) a.States.length K 0 (by omega) (by omega) hK.2.2.1
 simp only [Int.natCast_zero] at e
 have := Kc (fun k i => Wt K k (i : Int) a) a.Counts.length (fun i => cntP (a.Counts.getD i ⟨0, 0⟩)) (some (Fp (fun i => Ha a (a.States.getD i ⟨[], [], [], []⟩)) a.States.length 0)) (some false) (fun k i hi => by
  rw [Wt]
  simp only [Xc hi, cT, Zf hi, bS, Kz (n := i) (by omega), Ye hi, H2]
  exact cnt_loop _ _ _) (fun k => by
   rw [Wt]; simp only [Z7 (Nat.le_refl _), cF, e]
   cases Fp (fun i => Ha a (a.States.getD i ⟨[], [], [], []⟩)) a.States.length 0 <;> simp) a.Counts.length K 0 (by omega) (by omega) hK.2.1
 simp only [Int.natCast_zero] at this
 rw [this]
 cases Fp (fun i => cntP (a.Counts.getD i ⟨0, 0⟩)) a.Counts.length 0 <;> simp
theorem state0_small {a : aAu} (hc : (a.Counts.length : Int) ≤ 512) {s : aSt} (hs : Ha a s = true) : s.L.length ≤ 512 ∧ s.R.length ≤ 512 := by
 simp only [Ha, Bool.and_eq_true] at hs
 obtain ⟨_, _, _, h1, h2, _⟩ := hs
 constructor
 ·rcases Sw s.L (-1) (by omega) h1 with h | h
  ·omega
  ·simp [h]
 ·rcases Sw s.R (-1) (by omega) h2 with h | h
  ·omega
  ·simp [h]
theorem autoRight (K : Nat) (a : aAu) (h : Qah a) (hK : D4 a K) : Gf K a = some (Fi a) := by
 have hK' := hK.1
 rw [Gf, autoSplit K (by omega) a.Split h.split, bS, Fi]
 cases Tp a.Split with
 | false => simp [Y2]
 | true =>
  simp only [Bool.not_true, cF, Bool.true_and]
  by_cases h0 : (a.Counts.length : Int) > 512
  ·simp [h0, Y2]
  ·have e0 : decide ((a.Counts.length : Int) > 512) = false := decide_eq_false h0
   simp only [e0, cF, Bool.not_false, Bool.true_and]
   by_cases h1 : (a.States.length : Int) < 1
   ·simp [h1, Y2]
   ·have e1 : decide ((a.States.length : Int) < 1) = false := decide_eq_false h1
    have hl : 0 < a.States.length := by omega
    simp only [e1, cF, Bool.not_false, Bool.true_and]
    by_cases h2 : (a.States.length : Int) > 256
    ·simp [h2, Y2]
    ·have e2 : decide ((a.States.length : Int) > 256) = false := decide_eq_false h2
     have hg : X4 a.States 0 = some a.States[0] := Zf hl
     have hst := h.st a.States[0] (List.getElem_mem hl)
     simp only [e2, cF, Bool.not_false, Bool.true_and, hg, bS, Ye hl, autoTail K a h hK]
     by_cases hbig : 9223372036854775807 < a.States[0].L.length + a.States[0].R.length
     ·-- so long a first state is refused all the same
      have f1 : Fp (fun i => Ha a (a.States.getD i ⟨[], [], [], []⟩)) a.States.length 0 = false := by
       cases hh : Fp (fun i => Ha a (a.States.getD i ⟨[], [], [], []⟩)) a.States.length 0 with
       | false => rfl
       | true =>
        have := E7.1 hh 0 (by omega) (by omega)
        simp only [Ye hl] at this
        have := state0_small (by omega) this
        omega
      rw [f1]
      cases decide (IntKind.i64.wrap ((a.States[0].L.length : Int) + (a.States[0].R.length : Int)) > 0) <;> simp [Y2]
     ·have hcode : (decide (IntKind.i64.wrap ((a.States[0].L.length : Int) + (a.States[0].R.length : Int)) > 0)) = !((a.States[0].L.length == 0) && (a.States[0].R.length == 0)) := by
       rw [w64 (by omega) (by omega)]
       by_cases g1 : a.States[0].L.length = 0
       ·by_cases g2 : a.States[0].R.length = 0
        ·simp [g1, g2]
        ·have f1 : decide ((a.States[0].L.length : Int) + (a.States[0].R.length : Int) > 0) = true := by simp; omega
         have f2 : (a.States[0].R.length == 0) = false := beq_eq_false_iff_ne.2 g2
         rw [f1, f2]; simp
       ·have f1 : decide ((a.States[0].L.length : Int) + (a.States[0].R.length : Int) > 0) = true := by simp; omega
        have f2 : (a.States[0].L.length == 0) = false := beq_eq_false_iff_ne.2 g1
        rw [f1, f2]; simp
      rw [hcode]
      cases ((a.States[0].L.length == 0) && (a.States[0].R.length == 0)) <;> simp [Y2]
theorem refRight (K : Nat) (a : aAu) (h : Qah a) (hK : D4 a K) : Nz K a = some (Fi a) := by
 have hK' := hK.1
 rw [Nz, refSplit K (by omega) a.Split h.split, bS, Fi]
 cases Tp a.Split with
 | false => simp [Xr]
 | true =>
  simp only [Bool.not_true, cF, Bool.true_and]
  by_cases h0 : (a.Counts.length : Int) > 512
  ·simp [h0, Xr]
  ·have e0 : decide ((a.Counts.length : Int) > 512) = false := decide_eq_false h0
   simp only [e0, cF, Bool.not_false, Bool.true_and]
   by_cases h1 : (a.States.length : Int) < 1
   ·simp [h1, Xr]
   ·have e1 : decide ((a.States.length : Int) < 1) = false := decide_eq_false h1
    have hl : 0 < a.States.length := by omega
    simp only [e1, cF, Bool.not_false, Bool.true_and]
    by_cases h2 : (a.States.length : Int) > 256
    ·simp [h2, Xr]
    ·have e2 : decide ((a.States.length : Int) > 256) = false := decide_eq_false h2
     have hg : X4 a.States 0 = some a.States[0] := Zf hl
     simp only [e2, cF, Bool.not_false, Bool.true_and, hg, bS, Ye hl, refTail K a h hK]
     by_cases g1 : a.States[0].L.length = 0
     ·have f1 : decide ((a.States[0].L.length : Int) > 0) = false := decide_eq_false (by omega)
      have f1' : (a.States[0].L.length == 0) = true := by simp [g1]
      simp only [f1, cF, f1', Bool.true_and]
      by_cases g2 : a.States[0].R.length = 0
      ·have f2 : decide ((a.States[0].R.length : Int) > 0) = false := decide_eq_false (by omega)
       have f2' : (a.States[0].R.length == 0) = true := by simp [g2]
       simp only [f2, cF, f2', Bool.true_and]
      ·have f2 : decide ((a.States[0].R.length : Int) > 0) = true := decide_eq_true (by omega)
       have f2' : (a.States[0].R.length == 0) = false := beq_eq_false_iff_ne.2 g2
       simp only [f2, cT, f2', Bool.false_and, Bool.and_false, Xr]
     ·have f1 : decide ((a.States[0].L.length : Int) > 0) = true := decide_eq_true (by omega)
      have f1' : (a.States[0].L.length == 0) = false := beq_eq_false_iff_ne.2 g1
      simp only [f1, cT, f1', Bool.false_and, Bool.and_false, Xr]
end Go.Rv

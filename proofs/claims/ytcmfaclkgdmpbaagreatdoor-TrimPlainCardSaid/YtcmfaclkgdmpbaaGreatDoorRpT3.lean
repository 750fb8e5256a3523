/- Automata, plainly: what both layers' questions 'may it be so?' answer. -/
import Derived.Test.YtcmfaclkgdmpbaaGreatDoorRgP
import Derived.KernelRfl
namespace Go.Rv
theorem bS {α β : Type} (a : α) (f : α → Option β) : (some a).bind f = f a := rfl
theorem cT {α : Type} (a b : α) : (bif true then a else b) = a := rfl
theorem cF {α : Type} (a b : α) : (bif false then a else b) = b := rfl
theorem Z3 {β : Type} {p : Prop} [Decidable p] {f : Unit → Option β} (h : p) : (ck p).bind f = f () := by simp [ck, h]
theorem Ze {α : Type} {l : List α} {i : Nat} (h : i < l.length) : Xl l (i : Int) = some l[i] := by simp [Xl, h]
theorem wf_u8 {n : Int} (h : (Lit.int .u8 n).wf = true) : 0 ≤ n ∧ n < 256 := by
 simp [Lit.wf, IntKind.min, IntKind.max, IntKind.signed, IntKind.bits] at h
 omega
theorem w64 {n : Int} (h0 : -9223372036854775808 ≤ n) (h1 : n < 9223372036854775808) : IntKind.i64.wrap n = n := by rw [IntKind.wrap_i64]; omega
theorem Bx {n : Nat} (h : n < 9223372036854775807) : IntKind.i64.wrap ((n : Int) + 1) = ((n + 1 : Nat) : Int) := by rw [w64 (by omega) (by omega)]; omega
theorem Pt {i n : Nat} (h : i < n) : (decide ((i : Int) < (n : Int))) = true := by simp; exact h
theorem Eh {i n : Nat} (h : n ≤ i) : (decide ((i : Int) < (n : Int))) = false := by simp; exact h
def I0 (below : Int) : Int → List Int → Bool
 | _, [] => true
 | last, n :: l => !(decide (n ≤ last)) && (!(decide (n ≥ below)) && I0 below n l)
def Dw (l : List Int) (below : Int) : Bool := I0 below (-1) l
theorem Oh {below : Int} : ∀ (l : List Int) (last : Int), -1 ≤ last → I0 below last l = true → (l.length : Int) ≤ below - last - 1 ∨ l = [] := by
 intro l
 induction l with
 | nil => intro last _ _; exact .inr rfl
 | cons n l ih =>
  intro last h0 h
  simp only [I0, Qgv, Bool.not_eq_true', decide_eq_false_iff_not] at h
  obtain ⟨h1, h2, h3⟩ := h
  refine .inl ?_
  rcases ih n (by omega) h3 with h4 | h4
  ·simp only [Qgc]; omega
  ·subst h4; simp only [Qgc, Qgu]; omega
theorem autoRises_l0 (K : Nat) (xs : List Int) (b : Int) (hl : xs.length ≤ 9223372036854775807) : ∀ (m k i : Nat) (last : Int), xs.length - i = m → i ≤ xs.length → m < k → H2 K k b last xs (xs.length : Int) (i : Int) = some (I0 b last (xs.drop i)) := by
 intro m
 induction m with
 | zero =>
  intro k i last hm hi hk
  obtain ⟨k, rfl⟩ := Qjj k (by omega)
  have hi' : i = xs.length := by omega
  subst hi'
  rw [H2]
  simp only [Eh (Qf6 _), cF, List.drop_length, I0]
 | succ m ih =>
  intro k i last hm hi hk
  obtain ⟨k, rfl⟩ := Qjj k (by omega)
  have hlt : i < xs.length := by omega
  rw [H2, Qf2 hlt]
  simp only [Pt hlt, cT, Ze hlt, bS, I0, M4, Bx (n := i) (by omega)]
  cases decide (xs[i] ≤ last) with
  | true => simp
  | false =>
   cases decide (xs[i] ≥ b) with
   | true => simp
   | false => simpa using ih k (i + 1) xs[i] (by omega) (by omega) (by omega)
theorem autoRises (K : Nat) (xs : List Int) (b : Int) (hl : xs.length ≤ 9223372036854775807) (hK : xs.length < K) : Ek K xs b = some (Dw xs b) := by
 have := autoRises_l0 K xs b hl xs.length K 0 (-1) (by omega) (by omega) hK
 rw [Ek]
 exact this
theorem refRises_l0 (K : Nat) (xs : List Int) (b : Int) (hl : xs.length ≤ 9223372036854775807) : ∀ (m k i : Nat) (last : Int), xs.length - i = m → i ≤ xs.length → m < k → (i = 0 → last = -1) → (∀ h : 0 < i, ∀ h2 : i ≤ xs.length, last = xs[i - 1] ∧ 0 ≤ last) → Y9 K k xs b (i : Int) = some (I0 b last (xs.drop i)) := by
 intro m
 induction m with
 | zero =>
  intro k i last hm hi hk h0 h1
  obtain ⟨k, rfl⟩ := Qjj k (by omega)
  have hi' : i = xs.length := by omega
  subst hi'
  rw [Y9]
  simp only [Eh (Qf6 _), cF, List.drop_length, I0]
 | succ m ih =>
  intro k i last hm hi hk h0 h1
  obtain ⟨k, rfl⟩ := Qjj k (by omega)
  have hlt : i < xs.length := by omega
  rw [Y9, Qf2 hlt]
  simp only [Pt hlt, cT, Ze hlt, bS, I0, U0, Bx (n := i) (by omega)]
  by_cases hneg : xs[i] < 0
  ·have e1 : decide (xs[i] < 0) = true := by simp [hneg]
   have e2 : decide (xs[i] ≤ last) = true := by
    rcases Qiy i with hz | hz
    ·rw [h0 hz]; simp; omega
    ·have := (h1 hz hi).2; simp; omega
   simp [e1, e2]
  ·have e1 : decide (xs[i] < 0) = false := by simp; omega
   simp only [e1, cF]
   by_cases hge : xs[i] ≥ b
   ·have e3 : decide (xs[i] ≥ b) = true := by simp [hge]
    simp [e3]
   ·have e3 : decide (xs[i] ≥ b) = false := by simp; omega
    simp only [e3, cF, Qg2, Qgs]
    rcases Qiy i with hz | hz
    ·have e4 : decide ((i : Int) > 0) = false := by simp [hz]
     have e5 : decide (xs[i] ≤ last) = false := by rw [h0 hz]; simp; omega
     simp only [e4, cF, e5, Qg2, Qgs]
     exact ih k (i + 1) xs[i] (by omega) (by omega) (by omega) (by omega) (fun _ _ => ⟨rfl, by omega⟩)
    ·have e4 : decide ((i : Int) > 0) = true := by simp; omega
     have e6 : IntKind.i64.wrap ((i : Int) - 1) = ((i - 1 : Nat) : Int) := by rw [w64 (by omega) (by omega)]; omega
     simp only [e4, cT, e6, Ze (show i - 1 < xs.length by omega), bS]
     rw [← (h1 hz hi).1]
     by_cases hle : xs[i] ≤ last
     ·have e7 : decide (last ≥ xs[i]) = true := by simp [hle]
      have e8 : decide (xs[i] ≤ last) = true := by simp [hle]
      simp [e7, e8]
     ·have e7 : decide (last ≥ xs[i]) = false := by simp; omega
      have e8 : decide (xs[i] ≤ last) = false := by simp; omega
      simp only [e7, cF, e8, Qg2, Qgs]
      exact ih k (i + 1) xs[i] (by omega) (by omega) (by omega) (by omega) (fun _ _ => ⟨rfl, by omega⟩)
theorem refRises (K : Nat) (xs : List Int) (b : Int) (hl : xs.length ≤ 9223372036854775807) (hK : xs.length < K) : Oi K xs b = some (Dw xs b) := by
 have := refRises_l0 K xs b hl xs.length K 0 (-1) (by omega) (by omega) hK (fun _ => rfl) (fun h => by omega)
 rw [Oi]
 exact this
def U9 (n : Int) : Int := if n = 0 then 1 else if n = 1 then 3 else if n = 2 then 9 else if n = 3 then 27 else 0
theorem autoCodes (K : Nat) (hK : 4 ≤ K) (n : Nat) : El K (n : Int) = some (U9 n) := by
 obtain ⟨K, rfl⟩ : ∃ k', K = k' + 4 := ⟨K - 4, by omega⟩
 by_cases h : n ≤ 3
 ·have : n = 0 ∨ n = 1 ∨ n = 2 ∨ n = 3 := by omega
  rcases this with rfl | rfl | rfl | rfl <;> simp [El, M6, U9, IntKind.wrap_i64]
 ·have e1 : decide ((n : Int) < 0) = false := Qfv (by omega)
  have e2 : decide ((n : Int) > 3) = true := by simp; omega
  have e3 : U9 n = 0 := by simp only [U9]; (repeat rw [if_neg (by omega)])
  simp only [El, e1, e2, cF, cT, M7, e3]
theorem refCodes (K : Nat) (hK : 4 ≤ K) (n : Nat) : Jc K (n : Int) = some (U9 n) := by
 obtain ⟨K, rfl⟩ : ∃ k', K = k' + 4 := ⟨K - 4, by omega⟩
 by_cases h : n ≤ 3
 ·have : n = 0 ∨ n = 1 ∨ n = 2 ∨ n = 3 := by omega
  rcases this with rfl | rfl | rfl | rfl <;> simp [Jc, U2, U9, IntKind.wrap_i64]
 ·have e1 : decide ((n : Int) < 0) = false := Qfv (by omega)
  have e2 : decide ((n : Int) > 3) = true := by simp; omega
  have e3 : U9 n = 0 := by simp only [U9]; (repeat rw [if_neg (by omega)])
  simp only [Jc, e1, e2, cF, cT, U3, e3]
theorem refIn_l0 (K : Nat) (xs : List Int) (v : Int) (hl : xs.length ≤ 9223372036854775807) : ∀ (m k i : Nat), xs.length - i = m → i ≤ xs.length → m < k → Ug K k xs v (i : Int) = some ((xs.drop i).contains v) := by
 intro m
 induction m with
 | zero =>
  intro k i hm hi hk
  obtain ⟨k, rfl⟩ := Qjj k (by omega)
  have hi' : i = xs.length := by omega
  subst hi'
  rw [Ug]
  simp only [Eh (Qf6 _), cF, List.drop_length, List.contains_nil]
 | succ m ih =>
  intro k i hm hi hk
  obtain ⟨k, rfl⟩ := Qjj k (by omega)
  have hlt : i < xs.length := by omega
  rw [Ug, Qf2 hlt]
  simp only [Pt hlt, cT, Ze hlt, bS, Bx (n := i) (by omega), Qh2]
  by_cases h : xs[i] = v
  ·simp [h]
  ·have e1 : (xs[i] == v) = false := by simp [h]
   have e2 : (v == xs[i]) = false := by simp; exact fun h' => h h'.symm
   simp only [e1, e2, cF, Qh1]
   exact ih k (i + 1) (by omega) (by omega) (by omega)
theorem refIn (K : Nat) (xs : List Int) (v : Int) (hl : xs.length ≤ 9223372036854775807) (hK : xs.length < K) : Wd K xs v = some (xs.contains v) := by
 have := refIn_l0 K xs v hl xs.length K 0 (by omega) (by omega) hK
 rw [Wd]
 exact this
theorem slIndex_l0 (K : Nat) (xs : List Int) (v : Int) (hl : xs.length ≤ 9223372036854775807) : ∀ (m k i : Nat), xs.length - i = m → i ≤ xs.length → m < k → ∃ r, Vg K k xs v (xs.length : Int) (i : Int) = some r ∧ decide (r ≥ 0) = (xs.drop i).contains v := by
 intro m
 induction m with
 | zero =>
  intro k i hm hi hk
  obtain ⟨k, rfl⟩ := Qjj k (by omega)
  have hi' : i = xs.length := by omega
  subst hi'
  rw [Vg]
  exact ⟨-1, by simp only [Eh (Qf6 _), cF], by simp⟩
 | succ m ih =>
  intro k i hm hi hk
  obtain ⟨k, rfl⟩ := Qjj k (by omega)
  have hlt : i < xs.length := by omega
  rw [Vg, Qf2 hlt]
  simp only [Pt hlt, cT, Ze hlt, bS, Bx (n := i) (by omega), Qh2]
  by_cases h : v = xs[i]
  ·refine ⟨i, by simp [h], by simp [h]⟩
  ·have e2 : (v == xs[i]) = false := by simp [h]
   obtain ⟨r, h1, h2⟩ := ih k (i + 1) (by omega) (by omega) (by omega)
   exact ⟨r, by simp only [e2, cF]; exact h1, by simp only [e2, Qh1]; exact h2⟩
theorem slContains (K : Nat) (xs : List Int) (v : Int) (hl : xs.length ≤ 9223372036854775807) (hK : xs.length < K) : Jj K xs v = some (xs.contains v) := by
 obtain ⟨r, h1, h2⟩ := slIndex_l0 K xs v hl xs.length K 0 (by omega) (by omega) hK
 rw [Qgb] at h1
 rw [Jj, Ks, h1]
 simpa using h2
def P6 (a : Zn) : Nat → Nat → Int → Int → Bool
 | 0, _, n, many => n == many
 | m + 1, i, n, many => if a.f i > n then false else if a.f i = n then P6 a m (i + 1) (n + 1) many else P6 a m (i + 1) n many
def splitS (x : Q4) : Bool := P6 x.Of 256 0 0 x.Many
theorem splitF_many (a : Zn) : ∀ (m i : Nat) (n many : Int), P6 a m i n many = true → many ≤ n + m := by
 intro m
 induction m with
 | zero => intro i n many h; simp [P6] at h; omega
 | succ m ih =>
  intro i n many h
  simp only [P6] at h
  split at h
  ·cases h
  ·split at h
   ·have := ih _ _ _ h; omega
   ·have := ih _ _ _ h; omega
theorem autoSplit_l0 (K : Nat) (a : Q4) (hb : ∀ i, i < 256 → 0 ≤ a.Of.f i ∧ a.Of.f i < 256) : ∀ (m k i : Nat) (n : Int), 256 - i = m → i ≤ 256 → m < k → 0 ≤ n → n ≤ i → U7 K k n a (i : Int) = some (P6 a.Of m i n a.Many) := by
 intro m
 induction m with
 | zero =>
  intro k i n hm hi hk h0 h1
  obtain ⟨k, rfl⟩ := Qjj k (by omega)
  have hi' : i = 256 := by omega
  subst hi'
  rw [U7]
  simp [P6]
 | succ m ih =>
  intro k i n hm hi hk h0 h1
  obtain ⟨k, rfl⟩ := Qjj k (by omega)
  have hlt : i < 256 := by omega
  obtain ⟨b0, b1⟩ := hb i hlt
  have hg : IntKind.i64.wrap (Zn.get a.Of (i : Int)) = a.Of.f i := by
   simp only [Zn.get, Qf1]
   exact w64 (by omega) (by omega)
  have e0 : decide ((i : Int) < 256) = true := by simp; omega
  have e9 : IntKind.i64.wrap (n + 1) = n + 1 := w64 (by omega) (by omega)
  rw [U7]
  simp only [e0, cT, Z3 (show 0 ≤ (i : Int) ∧ (i : Int) < 256 by omega), hg, P6, Bx (n := i) (by omega), e9]
  by_cases h2 : a.Of.f i > n
  ·simp [h2]
  ·have e1 : decide (a.Of.f i > n) = false := by simp; omega
   simp only [e1, cF, if_neg h2]
   by_cases h3 : a.Of.f i = n
   ·have e2 : (a.Of.f i == n) = true := by simp [h3]
    simp only [e2, cT, if_pos h3]
    exact ih k (i + 1) (n + 1) (by omega) (by omega) (by omega) (by omega) (by omega)
   ·have e2 : (a.Of.f i == n) = false := by simp [h3]
    simp only [e2, cF, if_neg h3]
    exact ih k (i + 1) n (by omega) (by omega) (by omega) (by omega) (by omega)
theorem autoSplit (K : Nat) (hK : 257 ≤ K) (a : Q4) (hb : ∀ i, i < 256 → 0 ≤ a.Of.f i ∧ a.Of.f i < 256) : Ev K a = some (splitS a) := by
 have := autoSplit_l0 K a hb 256 K 0 0 (by omega) (by omega) (by omega) (by omega) (by omega)
 rw [Ev]; exact this
end Go.Rv
namespace Go.Rv
def Qc1 (p : Nat → Bool) : Nat → Nat → Bool
 | 0, _ => true
 | m + 1, i => p i && Qc1 p m (i + 1)
theorem Qeu {p : Nat → Bool} : ∀ {m i : Nat}, Qc1 p m i = true ↔ ∀ j, i ≤ j → j < i + m → p j = true := by
 intro m
 induction m with
 | zero => intro i; simp [Qc1]; omega
 | succ m ih =>
  intro i
  simp only [Qc1, Qgv, ih]
  constructor
  ·rintro ⟨h0, h1⟩ j h2 h3
   by_cases h : j = i
   ·subst h; exact h0
   ·exact h1 j (by omega) (by omega)
  ·intro h
   exact ⟨h i (by omega) (by omega), fun j h2 h3 => h j (by omega) (by omega)⟩
theorem allLoop {β : Type} (F : Nat → Nat → Option β) (n : Nat) (p : Nat → Bool) (fin bad : Option β) (hs : ∀ k i, i < n → F (k + 1) i = if p i = true then F k (i + 1) else bad) (he : ∀ k, F (k + 1) n = fin) :
  ∀ (m k i : Nat), n - i = m → i ≤ n → m < k → F k i = if Qc1 p m i = true then fin else bad := by
 intro m
 induction m with
 | zero =>
  intro k i hm hi hk
  obtain ⟨k, rfl⟩ := Qjj k (by omega)
  have : i = n := by omega
  subst this
  rw [he]
  simp [Qc1]
 | succ m ih =>
  intro k i hm hi hk
  obtain ⟨k, rfl⟩ := Qjj k (by omega)
  rw [hs k i (by omega), ih k (i + 1) (by omega) (by omega) (by omega)]
  cases hp : p i with
  | true => simp [Qc1, hp]
  | false => simp [Qc1, hp]
def stR (a : Qn) (m : Qd) : List Int := ((a.States[m.To.toNat]?).map (·.R)).getD []
def opP (a : Qn) (s : Qa) (m : Qd) (i : Nat) : Bool := decide (1 ≤ m.Ops.getD i 0) && (decide (m.Ops.getD i 0 ≤ 3) && (m.Ops.getD i 0 == 3 || s.R.contains ((stR a m).getD i 0)))
def moveP (a : Qn) (s : Qa) (m : Qd) : Bool :=
 if m.To = -1 then m.Ops.length == 0 else decide (1 ≤ m.To) && (decide (m.To < a.States.length) && (m.Ops.length == (stR a m).length && Qc1 (opP a s m) m.Ops.length 0))
def rowP (a : Qn) (s : Qa) (c : Nat) : Bool :=
 decide (-1 ≤ s.Rule.getD c 0) && (decide (s.Rule.getD c 0 < 512) && (((s.Next.getD c []).length : Int) == a.Split.Many && Qc1 (fun k => moveP a s ((s.Next.getD c []).getD k ⟨0, []⟩)) (s.Next.getD c []).length 0))
def Iy (a : Qn) (s : Qa) : Bool :=
 !(U9 s.R.length == 0) && (((s.Rule.length : Int) == U9 s.R.length) && (((s.Next.length : Int) == U9 s.R.length) && (Dw s.L 512 && (Dw s.R a.Counts.length && Qc1 (rowP a s) s.Next.length 0))))
def cntP (c : X2) : Bool := !(decide (c.a0 < 1)) && (!(decide (c.a0 > c.a1)) && (!(decide (c.a1 < 2)) && !(decide (c.a1 > 4096))))
def rightP (a : Qn) : Bool :=
 splitS a.Split && (!(decide ((a.Counts.length : Int) > 512)) && (!(decide ((a.States.length : Int) < 1)) && (!(decide ((a.States.length : Int) > 256)) && ((((a.States.getD 0 ⟨[], [], [], []⟩).L.length == 0) && ((a.States.getD 0 ⟨[], [], [], []⟩).R.length == 0)) &&
  (Qc1 (fun i => cntP (a.Counts.getD i ⟨0, 0⟩)) a.Counts.length 0 && Qc1 (fun i => Iy a (a.States.getD i ⟨[], [], [], []⟩)) a.States.length 0)))))
theorem Q2 {α : Type} {l : List α} {i : Nat} {d : α} (h : i < l.length) : l.getD i d = l[i] := by simp [List.getD, h]
structure Okay (a : Qn) : Prop where
 split : ∀ i, i < 256 → 0 ≤ a.Split.Of.f i ∧ a.Split.Of.f i < 256
 counts : a.Counts.length ≤ 9223372036854775807
 states : a.States.length ≤ 9223372036854775807
 st : ∀ s ∈ a.States, s.L.length ≤ 9223372036854775807 ∧ s.R.length ≤ 9223372036854775807 ∧ s.Rule.length ≤ 9223372036854775807 ∧ s.Next.length ≤ 9223372036854775807 ∧ ∀ r ∈ s.Next, r.length ≤ 9223372036854775807 ∧ ∀ m ∈ r, m.Ops.length ≤ 9223372036854775807
def bigOf (a : Qn) (K : Nat) : Prop := 300 ≤ K ∧ a.Counts.length < K ∧ a.States.length < K ∧ ∀ s ∈ a.States, s.L.length < K ∧ s.R.length < K ∧ s.Next.length < K ∧ ∀ r ∈ s.Next, r.length < K ∧ ∀ m ∈ r, m.Ops.length < K
theorem autoMove (K : Nat) (a : Qn) (s : Qa) (m : Qd) (hK : bigOf a K) (hs : s.R.length < K ∧ s.R.length ≤ 9223372036854775807) (hm : m.Ops.length < K ∧ m.Ops.length ≤ 9223372036854775807) : Ha K ⟨a⟩ s m = some (moveP a s m) := by
 rw [Ha, moveP]
 by_cases h1 : m.To = -1
 ·have e1 : (m.To == -1) = true := by simp [h1]
  simp only [e1, cT, if_pos h1]
  refine congrArg some ?_
  by_cases h : m.Ops.length = 0
  ·simp [h]
  ·have f1 : ((m.Ops.length : Int) == 0) = false := Qgd.2 (by omega)
   have f2 : (m.Ops.length == 0) = false := Qgd.2 h
   rw [f1, f2]
 ·have e1 : (m.To == -1) = false := by simp [h1]
  simp only [e1, cF, if_neg h1]
  by_cases h2 : m.To < 1
  ·have e2 : decide (m.To < 1) = true := by simp [h2]
   have e3 : decide (1 ≤ m.To) = false := by simp; omega
   simp [e2, e3, Xd]
  ·have e2 : decide (m.To < 1) = false := by simp; omega
   have e3 : decide (1 ≤ m.To) = true := by simp; omega
   simp only [e2, cF, e3, Qgs]
   by_cases h3 : m.To ≥ (a.States.length : Int)
   ·have e4 : decide (m.To ≥ (a.States.length : Int)) = true := by simp [h3]
    have e5 : decide (m.To < (a.States.length : Int)) = false := by simp; omega
    simp [e4, e5, Xd]
   ·have e4 : decide (m.To ≥ (a.States.length : Int)) = false := by simp; omega
    have e5 : decide (m.To < (a.States.length : Int)) = true := by simp; omega
    have hto : m.To.toNat < a.States.length := by omega
    have hg : Xl a.States m.To = some a.States[m.To.toNat] := by
     have := Ze hto
     rwa [Qir (by omega)] at this
    have hR : stR a m = a.States[m.To.toNat].R := by simp [stR, hto]
    simp only [e4, cF, e5, Qgs, hg, bS]
    rw [← hR]
    by_cases h6 : m.Ops.length = (stR a m).length
    ·have e6 : ((m.Ops.length : Int) != ((stR a m).length : Int)) = false := by simp [h6]
     have e7 : (m.Ops.length == (stR a m).length) = true := by simp [h6]
     simp only [e6, cF, e7, Qgs]
     have := allLoop (fun k i => Xb K k m (m.Ops.length : Int) (i : Int) ⟨a⟩ s) m.Ops.length (opP a s m) (some true) (some false) (fun k i hi => by
      have hi2 : i < (stR a m).length := by omega
      have hi3 : i < a.States[m.To.toNat].R.length := by rw [← hR]; exact hi2
      rw [Xb]
      simp only [Pt hi, cT, Ze hi, bS, Bx (n := i) (by omega), opP, Q2 hi, Q2 hi2, hg, Ze hi3]
      by_cases g1 : m.Ops[i] < 1
      ·have f1 : decide (m.Ops[i] < 1) = true := by simp [g1]
       have f2 : decide (1 ≤ m.Ops[i]) = false := by simp; omega
       simp [f1, f2, Xc]
      ·have f1 : decide (m.Ops[i] < 1) = false := by simp; omega
       have f2 : decide (1 ≤ m.Ops[i]) = true := by simp; omega
       simp only [f1, cF, f2, Qgs]
       by_cases g2 : m.Ops[i] > 3
       ·have f3 : decide (m.Ops[i] > 3) = true := by simp [g2]
        have f4 : decide (m.Ops[i] ≤ 3) = false := by simp; omega
        simp [f3, f4, Xc]
       ·have f3 : decide (m.Ops[i] > 3) = false := by simp; omega
        have f4 : decide (m.Ops[i] ≤ 3) = true := by simp; omega
        simp only [f3, cF, f4, Qgs]
        by_cases g3 : m.Ops[i] = 3
        ·simp [g3]
        ·have f5 : (m.Ops[i] != 3) = true := by simp [g3]
         have f6 : (m.Ops[i] == 3) = false := by simp [g3]
         have hR2 : a.States[m.To.toNat].R[i] = (stR a m)[i] := by simp only [hR]
         simp only [f5, cT, f6, Qh1, slContains K s.R _ hs.2 hs.1, bS, hR2]
         cases s.R.contains (stR a m)[i] <;> simp [Xc]) (fun k => by rw [Xb]; simp only [Eh (Qf6 _), cF]) m.Ops.length K 0 (by omega) (by omega) hm.1
     simp only [Qgb] at this
     rw [this]
     cases Qc1 (opP a s m) m.Ops.length 0 <;> simp
    ·have e6 : ((m.Ops.length : Int) != ((stR a m).length : Int)) = true := by simp; omega
     have e7 : (m.Ops.length == (stR a m).length) = false := by simp [h6]
     simp [e6, e7, Xd]
end Go.Rv
namespace Go.Rv
theorem findLoop (F : Nat → Nat → Option Int) (n : Nat) (p : Nat → Bool) (hs : ∀ k i, i < n → F (k + 1) i = if p i = true then F k (i + 1) else some (i : Int)) (he : ∀ k, F (k + 1) n = some (-1)) :
  ∀ (m k i : Nat), n - i = m → i ≤ n → m < k → ∃ r, F k i = some r ∧ decide (r ≥ 0) = !Qc1 p m i := by
 intro m
 induction m with
 | zero =>
  intro k i hm hi hk
  obtain ⟨k, rfl⟩ := Qjj k (by omega)
  have : i = n := by omega
  subst this
  exact ⟨-1, he k, by simp [Qc1]⟩
 | succ m ih =>
  intro k i hm hi hk
  obtain ⟨k, rfl⟩ := Qjj k (by omega)
  rw [hs k i (by omega)]
  cases hp : p i with
  | true =>
   obtain ⟨r, h1, h2⟩ := ih k (i + 1) (by omega) (by omega) (by omega)
   exact ⟨r, by simp [h1], by simpa [Qc1, hp] using h2⟩
  | false => exact ⟨i, by simp, by simp [Qc1, hp]⟩
def mvOk (K : Nat) (r : List Qd) : Prop := r.length < K ∧ r.length ≤ 9223372036854775807 ∧ ∀ m ∈ r, m.Ops.length < K ∧ m.Ops.length ≤ 9223372036854775807
def stOk (K : Nat) (s : Qa) : Prop := (s.L.length < K ∧ s.L.length ≤ 9223372036854775807) ∧ (s.R.length < K ∧ s.R.length ≤ 9223372036854775807) ∧ s.Rule.length ≤ 9223372036854775807 ∧ (s.Next.length < K ∧ s.Next.length ≤ 9223372036854775807) ∧ ∀ r ∈ s.Next, mvOk K r
theorem autoRow (K : Nat) (a : Qn) (s : Qa) (row : List Qd) (hK : bigOf a K) (hs : stOk K s) (hr : mvOk K row) : Vj K row ⟨a⟩ s = some (!Qc1 (fun k => moveP a s (row.getD k ⟨0, []⟩)) row.length 0) := by
 obtain ⟨r, h1, h2⟩ := findLoop (fun k i => Yv K k row (row.length : Int) (i : Int) ⟨a⟩ s) row.length (fun k => moveP a s (row.getD k ⟨0, []⟩)) (fun k i hi => by
  have hm := hr.2.2 row[i] (Qfy hi)
  have hl := hr.2.1
  rw [Yv]
  simp only [Pt hi, cT, Ze hi, bS, Bx (n := i) (by omega), Q2 hi, Wu, autoMove K a s row[i] hK hs.2.1 hm]
  cases moveP a s row[i] <;> simp) (fun k => by rw [Yv]; simp only [Eh (Qf6 _), cF]) row.length K 0 (by omega) (by omega) hr.1
 rw [Qgb] at h1
 rw [Vj, J3, h1, bS, h2]
theorem autoState (K : Nat) (a : Qn) (s : Qa) (hK : bigOf a K) (hc : a.Counts.length ≤ 9223372036854775807) (hs : stOk K s) : J6 K ⟨a⟩ s = some (Iy a s) := by
 have hK' := hK.1
 rw [J6, autoCodes K (by omega), bS, Iy]
 by_cases h1 : U9 s.R.length = 0
 ·simp [h1, Z4]
 ·have e1 : (U9 (s.R.length : Int) == 0) = false := Qgd.2 h1
  simp only [e1, cF, Qg2, Qgs]
  by_cases h2 : (s.Rule.length : Int) = U9 s.R.length
  ·have e2 : ((s.Rule.length : Int) != U9 s.R.length) = false := by simp [h2]
   have e2' : ((s.Rule.length : Int) == U9 s.R.length) = true := by simp [h2]
   simp only [e2, cF, e2', Qgs]
   by_cases h3 : (s.Next.length : Int) = U9 s.R.length
   ·have e3 : ((s.Next.length : Int) != U9 s.R.length) = false := by simp [h3]
    have e3' : ((s.Next.length : Int) == U9 s.R.length) = true := by simp [h3]
    simp only [e3, cF, e3', Qgs, autoRises K s.L 512 hs.1.2 hs.1.1, autoRises K s.R _ hs.2.1.2 hs.2.1.1, bS]
    cases h4 : Dw s.L 512 with
    | false => simp [Z4]
    | true =>
     cases h5 : Dw s.R (a.Counts.length : Int) with
     | false => simp [Z4]
     | true =>
      simp only [Qg7, cF, Qgs]
      have := allLoop (fun k i => Xu K k s (s.Next.length : Int) (i : Int) ⟨a⟩) s.Next.length (rowP a s) (some true) (some false) (fun k i hi => by
       have hi2 : i < s.Rule.length := by omega
       have hrow := hs.2.2.2.2 s.Next[i] (Qfy hi)
       have hl := hs.2.2.2.1.2
       rw [Xu]
       simp only [Pt hi, cT, Ze hi, Ze hi2, bS, Bx (n := i) (by omega), rowP, Q2 hi, Q2 hi2]
       by_cases g1 : s.Rule[i] < -1
       ·have f1 : decide (s.Rule[i] < -1) = true := by simp [g1]
        have f2 : decide (-1 ≤ s.Rule[i]) = false := by simp; omega
        simp [f1, f2, Y6]
       ·have f1 : decide (s.Rule[i] < -1) = false := by simp; omega
        have f2 : decide (-1 ≤ s.Rule[i]) = true := by simp; omega
        simp only [f1, cF, f2, Qgs]
        by_cases g2 : s.Rule[i] ≥ 512
        ·have f3 : decide (s.Rule[i] ≥ 512) = true := by simp [g2]
         have f4 : decide (s.Rule[i] < 512) = false := by simp; omega
         simp [f3, f4, Y6]
        ·have f3 : decide (s.Rule[i] ≥ 512) = false := by simp; omega
         have f4 : decide (s.Rule[i] < 512) = true := by simp; omega
         simp only [f3, cF, f4, Qgs]
         by_cases g3 : (s.Next[i].length : Int) = a.Split.Many
         ·have f5 : ((s.Next[i].length : Int) != a.Split.Many) = false := by simp [g3]
          have f6 : ((s.Next[i].length : Int) == a.Split.Many) = true := by simp [g3]
          simp only [f5, cF, f6, Qgs, autoRow K a s s.Next[i] hK hs hrow, bS]
          cases Qc1 (fun k => moveP a s (s.Next[i].getD k ⟨0, []⟩)) s.Next[i].length 0 <;> simp
         ·have f5 : ((s.Next[i].length : Int) != a.Split.Many) = true := by simp [g3]
          have f6 : ((s.Next[i].length : Int) == a.Split.Many) = false := by simp [g3]
          simp [f5, f6, Y6]) (fun k => by rw [Xu]; simp only [Eh (Qf6 _), cF]) s.Next.length K 0 (by omega) (by omega) hs.2.2.2.1.1
      simp only [Qgb] at this
      rw [this]
      cases Qc1 (rowP a s) s.Next.length 0 <;> simp
   ·have e3 : ((s.Next.length : Int) != U9 s.R.length) = true := by simp [h3]
    have e3' : ((s.Next.length : Int) == U9 s.R.length) = false := by simp [h3]
    simp [e3, e3', Z4]
  ·have e2 : ((s.Rule.length : Int) != U9 s.R.length) = true := by simp [h2]
   have e2' : ((s.Rule.length : Int) == U9 s.R.length) = false := by simp [h2]
   simp [e2, e2', Z4]
theorem Okay.stOk {a : Qn} (h : Okay a) {K : Nat} (hK : bigOf a K) {s : Qa} (hs : s ∈ a.States) : stOk K s := by
 obtain ⟨h1, h2, h3, h4, h5⟩ := h.st s hs
 obtain ⟨k1, k2, k3, k4⟩ := hK.2.2.2 s hs
 exact ⟨⟨k1, h1⟩, ⟨k2, h2⟩, h3, ⟨k3, h4⟩, fun r hr => ⟨(k4 r hr).1, (h5 r hr).1, fun m hm => ⟨(k4 r hr).2 m hm, (h5 r hr).2 m hm⟩⟩⟩
theorem cnt_loop (c : X2) {β : Type} (x y : Option β) : (bif decide ((X2.get c (0 : Int)) < (1 : Int)) then y else bif decide ((X2.get c (0 : Int)) > (X2.get c (1 : Int))) then y else bif decide ((X2.get c (1 : Int)) < (2 : Int)) then y else bif decide ((X2.get c (1 : Int)) > (4096 : Int)) then y else x) = if cntP c = true then x else y := by
 have g0 : X2.get c 0 = c.a0 := rfl
 have g1 : X2.get c 1 = c.a1 := rfl
 rw [g0, g1, cntP]
 cases decide (c.a0 < 1) <;> cases decide (c.a0 > c.a1) <;> cases decide (c.a1 < 2) <;> cases decide (c.a1 > 4096) <;> simp
theorem autoTail (K : Nat) (a : Qn) (h : Okay a) (hK : bigOf a K) : J7 K K a (a.Counts.length : Int) 0 = some (Qc1 (fun i => cntP (a.Counts.getD i ⟨0, 0⟩)) a.Counts.length 0 && Qc1 (fun i => Iy a (a.States.getD i ⟨[], [], [], []⟩)) a.States.length 0) := by
 have hc := h.counts
 have hs := h.states
 obtain ⟨r, h1, h2⟩ := findLoop (fun k i => Yo K k a.States (a.States.length : Int) (i : Int) ⟨a⟩) a.States.length (fun i => Iy a (a.States.getD i ⟨[], [], [], []⟩)) (fun k i hi => by
  have hm := h.stOk hK (Qfy hi)
  rw [Yo]
  simp only [Pt hi, cT, Ze hi, bS, Bx (n := i) (by omega), Q2 hi, I3, autoState K a a.States[i] hK hc hm]
  cases Iy a a.States[i] <;> simp) (fun k => by rw [Yo]; simp only [Eh (Qf6 _), cF]) a.States.length K 0 (by omega) (by omega) hK.2.2.1
 rw [Qgb] at h1
 have e : (Vc K a.States ⟨a⟩) = some (!Qc1 (fun i => Iy a (a.States.getD i ⟨[], [], [], []⟩)) a.States.length 0) := by
  rw [Vc, Jn, h1, bS, h2]
 have := allLoop (fun k i => J7 K k a (a.Counts.length : Int) (i : Int)) a.Counts.length (fun i => cntP (a.Counts.getD i ⟨0, 0⟩)) (some (Qc1 (fun i => Iy a (a.States.getD i ⟨[], [], [], []⟩)) a.States.length 0)) (some false) (fun k i hi => by
  rw [J7]
  simp only [Pt hi, cT, Ze hi, bS, Bx (n := i) (by omega), Q2 hi, H4]
  exact cnt_loop _ _ _) (fun k => by rw [J7]; simp only [Eh (Qf6 _), cF, e, bS, Bool.not_not]) a.Counts.length K 0 (by omega) (by omega) hK.2.1
 simp only [Qgb] at this
 rw [this]
 cases Qc1 (fun i => cntP (a.Counts.getD i ⟨0, 0⟩)) a.Counts.length 0 <;> simp
theorem state0_small {a : Qn} (hc : (a.Counts.length : Int) ≤ 512) {s : Qa} (hs : Iy a s = true) : s.L.length ≤ 512 ∧ s.R.length ≤ 512 := by
 simp only [Iy, Qgv] at hs
 obtain ⟨_, _, _, h1, h2, _⟩ := hs
 constructor
 ·rcases Oh s.L (-1) (by omega) h1 with h | h
  ·omega
  ·simp [h]
 ·rcases Oh s.R (-1) (by omega) h2 with h | h
  ·omega
  ·simp [h]
theorem autoRight (K : Nat) (a : Qn) (h : Okay a) (hK : bigOf a K) : Mh K a = some (rightP a) := by
 have hK' := hK.1
 rw [Mh, autoSplit K (by omega) a.Split h.split, bS, rightP]
 cases splitS a.Split with
 | false => simp [Xz]
 | true =>
  simp only [Qg7, cF, Qgs]
  by_cases h0 : (a.Counts.length : Int) > 512
  ·simp [h0, Xz]
  ·have e0 : decide ((a.Counts.length : Int) > 512) = false := Qfv h0
   simp only [e0, cF, Qg2, Qgs]
   by_cases h1 : (a.States.length : Int) < 1
   ·simp [h1, Xz]
   ·have e1 : decide ((a.States.length : Int) < 1) = false := Qfv h1
    have hl : 0 < a.States.length := by omega
    simp only [e1, cF, Qg2, Qgs]
    by_cases h2 : (a.States.length : Int) > 256
    ·simp [h2, Xz]
    ·have e2 : decide ((a.States.length : Int) > 256) = false := Qfv h2
     have hg : Xl a.States 0 = some a.States[0] := Ze hl
     have hst := h.st a.States[0] (Qfy hl)
     simp only [e2, cF, Qg2, Qgs, hg, bS, Q2 hl, autoTail K a h hK]
     by_cases hbig : 9223372036854775807 < a.States[0].L.length + a.States[0].R.length
     ·-- so long a first state is refused all the same
      have f1 : Qc1 (fun i => Iy a (a.States.getD i ⟨[], [], [], []⟩)) a.States.length 0 = false := by
       cases hh : Qc1 (fun i => Iy a (a.States.getD i ⟨[], [], [], []⟩)) a.States.length 0 with
       | false => rfl
       | true =>
        have := Qeu.1 hh 0 (by omega) (by omega)
        simp only [Q2 hl] at this
        have := state0_small (by omega) this
        omega
      rw [f1]
      cases decide (IntKind.i64.wrap ((a.States[0].L.length : Int) + (a.States[0].R.length : Int)) > 0) <;> simp [Xz]
     ·have hcode : (decide (IntKind.i64.wrap ((a.States[0].L.length : Int) + (a.States[0].R.length : Int)) > 0)) = !((a.States[0].L.length == 0) && (a.States[0].R.length == 0)) := by
       rw [w64 (by omega) (by omega)]
       by_cases g1 : a.States[0].L.length = 0
       ·by_cases g2 : a.States[0].R.length = 0
        ·simp [g1, g2]
        ·have f1 : decide ((a.States[0].L.length : Int) + (a.States[0].R.length : Int) > 0) = true := by simp; omega
         have f2 : (a.States[0].R.length == 0) = false := Qgd.2 g2
         rw [f1, f2]; simp
       ·have f1 : decide ((a.States[0].L.length : Int) + (a.States[0].R.length : Int) > 0) = true := by simp; omega
        have f2 : (a.States[0].L.length == 0) = false := Qgd.2 g1
        rw [f1, f2]; simp
      rw [hcode]
      cases ((a.States[0].L.length == 0) && (a.States[0].R.length == 0)) <;> simp [Xz]
end Go.Rv

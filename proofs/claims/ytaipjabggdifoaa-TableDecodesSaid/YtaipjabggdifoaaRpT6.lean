/- What is written: numbers, and the bytes of an automaton; both layers write the same. -/
/- What is written: the reference's writer; how long; fuel enough. -/
/- TableEncodes, plainly. -/
import Derived.Test.YtaipjabggdifoaaRpT3
namespace Go.Rv
theorem or128 (n : Nat) (h : n < 256) : bits .or .u8 (n : Int) 128 = ((n % 128 + 128 : Nat) : Int) := by
 have : (List.range 256).all (fun m => bits .or .u8 (m : Int) 128 == ((m % 128 + 128 : Nat) : Int)) = true := by kernel_rfl
 exact beq_iff_eq.1 (List.all_eq_true.1 this n (List.mem_range.2 h))
def Ih : Nat → Nat → List Int
 | 0, _ => []
 | k + 1, n => if n < 128 then [(n : Int)] else ((n % 128 + 128 : Nat) : Int) :: Ih k (n / 128)
def U1 (v : Int) : List Int := Ih 9 v.toNat
theorem numF_len : ∀ (k n : Nat), (Ih k n).length ≤ k := by
 intro k
 induction k with
 | zero => intro n; simp [Ih]
 | succ k ih =>
  intro n
  simp only [Ih]
  split
  ·simp
  ·simp only [List.length_cons]; have := ih (n / 128); omega
theorem Co (v : Int) : (U1 v).length ≤ 9 := numF_len _ _
abbrev LIM : Nat := 1099511627776
theorem rm {n : Nat} (h : n ≤ LIM) : roomy 1 n = true := Dn.2 (by simp only [maxLen, LIM] at *; omega)
theorem autoNumber_l0 (K : Nat) : ∀ (d k n : Nat) (y : List Int), n < 128 ^ (d + 1) → d < k → y.length + (Ih (d + 1) n).length ≤ LIM → Jm K k (n : Int) y = some (y ++ Ih (d + 1) n) := by
 intro d
 induction d with
 | zero =>
  intro k n y hn hk hl
  obtain ⟨k, rfl⟩ : ∃ k', k = k' + 1 := ⟨k - 1, by omega⟩
  have hn' : n < 128 := by simpa using hn
  have e0 : decide ((n : Int) ≥ 128) = false := decide_eq_false (by omega)
  have e1 : IntKind.u8.wrap (n : Int) = n := by rw [IntKind.wrap_u8]; omega
  have e2 : Ih (0 + 1) n = [(n : Int)] := by simp only [Ih, if_pos hn']
  rw [e2] at hl ⊢
  simp only [Jm, e0, cF, e1, Z1 (rm hl)]
 | succ d ih =>
  intro k n y hn hk hl
  obtain ⟨k, rfl⟩ : ∃ k', k = k' + 1 := ⟨k - 1, by omega⟩
  by_cases hn' : n < 128
  ·have e0 : decide ((n : Int) ≥ 128) = false := decide_eq_false (by omega)
   have e1 : IntKind.u8.wrap (n : Int) = n := by rw [IntKind.wrap_u8]; omega
   have e2 : Ih (d + 1 + 1) n = [(n : Int)] := by rw [Ih, if_pos hn']
   rw [e2] at hl ⊢
   simp only [Jm, e0, cF, e1, Z1 (rm hl)]
  ·have e0 : decide ((n : Int) ≥ 128) = true := decide_eq_true (by omega)
   have e1 : bits .or .u8 (IntKind.u8.wrap (n : Int)) 128 = ((n % 128 + 128 : Nat) : Int) := by
    have : IntKind.u8.wrap (n : Int) = ((n % 256 : Nat) : Int) := by rw [IntKind.wrap_u8]; omega
    rw [this, or128 _ (by omega)]
    omega
   have e2 : Ih (d + 1 + 1) n = ((n % 128 + 128 : Nat) : Int) :: Ih (d + 1) (n / 128) := by rw [Ih, if_neg hn']
   have e3 : Int.fdiv (n : Int) (2 ^ min (Int.toNat (7 : Int)) IntKind.i64.bits) = ((n / 128 : Nat) : Int) := by
    have : (2 : Int) ^ min (Int.toNat (7 : Int)) IntKind.i64.bits = 128 := by decide
    rw [this, Int.fdiv_eq_ediv_of_nonneg _ (by omega)]
    omega
   rw [e2] at hl ⊢
   simp only [List.length_cons] at hl
   simp only [Jm, e0, cT, e1, e3, Z1 (rm (show y.length + [((n % 128 + 128 : Nat) : Int)].length ≤ LIM by simp only [List.length_singleton]; omega))]
   rw [ih k (n / 128) _ (by rw [Nat.pow_succ] at hn; omega) (by omega) (by simp only [List.length_append, List.length_singleton]; omega)]
   simp
theorem refNumber_l0 (K : Nat) : ∀ (d k n : Nat) (y : List Int), n < 128 ^ (d + 1) → n < 9223372036854775808 → d < k → y.length + (Ih (d + 1) n).length ≤ LIM → Jo K k (n : Int) y = some (y ++ Ih (d + 1) n) := by
 intro d
 induction d with
 | zero =>
  intro k n y hn hb hk hl
  obtain ⟨k, rfl⟩ : ∃ k', k = k' + 1 := ⟨k - 1, by omega⟩
  have hn' : n < 128 := by simpa using hn
  have e0 : decide ((n : Int) > 127) = false := decide_eq_false (by omega)
  have e1 : IntKind.u8.wrap (n : Int) = n := by rw [IntKind.wrap_u8]; omega
  have e2 : Ih (0 + 1) n = [(n : Int)] := by simp only [Ih, if_pos hn']
  rw [e2] at hl ⊢
  simp only [Jo, e0, cF, e1, Z1 (rm hl)]
 | succ d ih =>
  intro k n y hn hb hk hl
  obtain ⟨k, rfl⟩ : ∃ k', k = k' + 1 := ⟨k - 1, by omega⟩
  by_cases hn' : n < 128
  ·have e0 : decide ((n : Int) > 127) = false := decide_eq_false (by omega)
   have e1 : IntKind.u8.wrap (n : Int) = n := by rw [IntKind.wrap_u8]; omega
   have e2 : Ih (d + 1 + 1) n = [(n : Int)] := by rw [Ih, if_pos hn']
   rw [e2] at hl ⊢
   simp only [Jo, e0, cF, e1, Z1 (rm hl)]
  ·have e0 : decide ((n : Int) > 127) = true := decide_eq_true (by omega)
   have e1 : IntKind.u8.wrap ((IntKind.u8.wrap (Int.tmod (n : Int) (128 : Int))) + 128) = ((n % 128 + 128 : Nat) : Int) := by
    rw [Int.tmod_eq_emod_of_nonneg (by omega), IntKind.wrap_u8, IntKind.wrap_u8]
    omega
   have e2 : Ih (d + 1 + 1) n = ((n % 128 + 128 : Nat) : Int) :: Ih (d + 1) (n / 128) := by rw [Ih, if_neg hn']
   have e3 : IntKind.i64.wrap (Int.tdiv (n : Int) (128 : Int)) = ((n / 128 : Nat) : Int) := by
    rw [Int.tdiv_eq_ediv_of_nonneg (by omega), w64 (by omega) (by omega)]
    omega
   rw [e2] at hl ⊢
   simp only [List.length_cons] at hl
   simp only [Jo, e0, cT, e1, e3, Z1 (rm (show y.length + [((n % 128 + 128 : Nat) : Int)].length ≤ LIM by simp only [List.length_singleton]; omega))]
   rw [ih k (n / 128) _ (by rw [Nat.pow_succ] at hn; omega) (by omega) (by omega) (by simp only [List.length_append, List.length_singleton]; omega)]
   simp
theorem clamp (v : Int) : (if (0 : Int) > v then (0 : Int) else v) = (v.toNat : Int) := by split <;> omega
theorem autoNumber (K : Nat) (hK : 10 ≤ K) (b : List Int) (v : Int) (hv : v < 9223372036854775808) (hl : b.length + (U1 v).length ≤ LIM) : Dk K b v = some (b ++ U1 v) := by
 rw [Dk, Wz, Z1 (rm (by simp only [List.length_nil]; omega)), bS, clamp, List.nil_append]
 exact autoNumber_l0 K 8 K v.toNat b (by omega) (by omega) hl
theorem refNumber (K : Nat) (hK : 10 ≤ K) (b : List Int) (v : Int) (hv : v < 9223372036854775808) (hl : b.length + (U1 v).length ≤ LIM) : I4 K b v = some (b ++ U1 v) := by
 rw [I4, Z1 (rm (by simp only [List.length_nil]; omega)), clamp, List.nil_append]
 exact refNumber_l0 K 8 K v.toNat b (by omega) (by omega) (by omega) hl
theorem Kd {α β : Type} (w : α → List Int) (xs : List α) (F : Nat → Nat → List Int → Option β) (fin : List Int → Option β)
  (hs : ∀ k i (h : i < xs.length) b, b.length + (w xs[i]).length ≤ LIM → F (k + 1) i b = F k (i + 1) (b ++ w xs[i])) (he : ∀ k b, F (k + 1) xs.length b = fin b) :
  ∀ (m k i : Nat) (b : List Int), xs.length - i = m → i ≤ xs.length → m < k → b.length + ((xs.drop i).flatMap w).length ≤ LIM → F k i b = fin (b ++ (xs.drop i).flatMap w) := by
 intro m
 induction m with
 | zero =>
  intro k i b hm hi hk hl
  obtain ⟨k, rfl⟩ : ∃ k', k = k' + 1 := ⟨k - 1, by omega⟩
  have : i = xs.length := by omega
  subst this
  rw [he]
  simp
 | succ m ih =>
  intro k i b hm hi hk hl
  obtain ⟨k, rfl⟩ : ∃ k', k = k' + 1 := ⟨k - 1, by omega⟩
  have hlt : i < xs.length := by omega
  rw [List.drop_eq_getElem_cons hlt, List.flatMap_cons] at hl ⊢
  rw [List.length_append] at hl
  rw [hs k i hlt b (by omega), ih k (i + 1) _ (by omega) (by omega) (by omega) (by rw [List.length_append]; omega), List.append_assoc]
def fits (v : Int) : Prop := v < 9223372036854775808
theorem Sf (v : Int) : fits (IntKind.i64.wrap v) := by simp only [fits, IntKind.wrap_i64]; omega
theorem Cp {n : Nat} (h : n ≤ 9223372036854775807) : fits (n : Int) := by simp only [fits]; omega
theorem autoNums (K : Nat) (hK : 10 ≤ K) (w : tbw) (xs : List Int) (hx : ∀ x ∈ xs, fits x) (hn : xs.length < K ∧ xs.length ≤ 9223372036854775807) (hl : w.b.length + (xs.flatMap U1).length ≤ LIM) : Lj K w xs = some ⟨w.b ++ xs.flatMap U1⟩ := by
 have := Kd U1 xs (fun k i b => J7 K k xs (xs.length : Int) (i : Int) b) (fun b => some ⟨b⟩)
  (fun k i h b hb => by
   show J7 K (k + 1) xs (xs.length : Int) (i : Int) b = J7 K k xs (xs.length : Int) ((i + 1 : Nat) : Int) _
   rw [J7]
   simp only [Xc h, cT, Zf h, bS, autoNumber K hK b xs[i] (hx _ (List.getElem_mem h)) hb, Kz (n := i) (by omega)])
  (fun k b => by
   show J7 K (k + 1) xs (xs.length : Int) (xs.length : Int) b = _
   rw [J7]
   simp only [Z7 (Nat.le_refl _), cF])
  xs.length K 0 w.b (by omega) (by omega) hn.1 (by simpa using hl)
 rw [Lj]
 simpa using this
theorem Sg (K : Nat) (hK : 10 ≤ K) (b : List Int) (v : Int) (hv : fits v) (hl : b.length + (U1 v).length ≤ LIM) : Lj K ⟨b⟩ [v] = some ⟨b ++ U1 v⟩ := by
 have := autoNums K hK ⟨b⟩ [v] (fun x hx => by rw [List.mem_singleton] at hx; subst hx; exact hv) ⟨by simp; omega, by simp⟩ (by simpa using hl)
 simpa using this
theorem Tr (K : Nat) (hK : 10 ≤ K) (b : List Int) (v : Int) (hv : fits v) (hl : b.length + (U1 v).length ≤ LIM) : Yn K ⟨b⟩ v = some ⟨b ++ U1 v⟩ := by
 rw [Yn, refNumber K hK [] v hv (by simp only [List.length_nil]; omega), bS, List.nil_append, Z1 (rm hl)]
def L9 (l : List Int) : List Int := U1 (l.length : Int) ++ l.flatMap U1
theorem autoList (K : Nat) (hK : 10 ≤ K) (b : List Int) (xs : List Int) (hx : ∀ x ∈ xs, fits x) (hn : xs.length < K ∧ xs.length ≤ 9223372036854775807) (hl : b.length + (L9 xs).length ≤ LIM) : Nq K ⟨b⟩ xs = some ⟨b ++ L9 xs⟩ := by
 rw [L9, List.length_append] at hl
 rw [Nq, Sg K hK b _ (Cp hn.2) (by omega), bS, autoNums K hK _ xs hx hn (by simp only [List.length_append]; omega), bS]
 simp [L9]
theorem refList (K : Nat) (hK : 10 ≤ K) (b : List Int) (xs : List Int) (hx : ∀ x ∈ xs, fits x) (hn : xs.length < K ∧ xs.length ≤ 9223372036854775807) (hl : b.length + (L9 xs).length ≤ LIM) : J8 K ⟨b⟩ xs = some ⟨b ++ L9 xs⟩ := by
 rw [L9, List.length_append] at hl
 have := Kd U1 xs (fun k i b => Yh K k xs (i : Int) b) (fun b => some ⟨b⟩)
  (fun k i h b hb => by
   show Yh K (k + 1) xs (i : Int) b = Yh K k xs ((i + 1 : Nat) : Int) _
   rw [Yh]
   simp only [Xc h, cT, Zf h, bS, Tr K hK b xs[i] (hx _ (List.getElem_mem h)) hb, Kz (n := i) (by omega)])
  (fun k b => by
   show Yh K (k + 1) xs (xs.length : Int) b = _
   rw [Yh]
   simp only [Z7 (Nat.le_refl _), cF])
  xs.length K 0 (b ++ U1 (xs.length : Int)) (by omega) (by omega) hn.1 (by simp only [List.length_append, List.drop_zero]; omega)
 rw [J8, Tr K hK b _ (Cp hn.2) (by omega), bS]
 simpa [L9] using this
def Hm (m : aMv) : List Int := U1 (IntKind.i64.wrap (m.To + 1)) ++ m.Ops
def rowW (p : Int × List aMv) : List Int := U1 (IntKind.i64.wrap (p.1 + 1)) ++ p.2.flatMap Hm
def stW (s : aSt) : List Int := L9 s.L ++ L9 s.R
def Da (s : aSt) : List Int := (s.Rule.zip s.Next).flatMap rowW
def Tt (c : Zb) : List Int := U1 c.a0 ++ U1 c.a1
def Te : List Int := [114, 100, 100, 108]
def F9 (a : aAu) : List Int := Te ++ (Qx.list 256 a.Split.Of ++ (U1 (a.Counts.length : Int) ++ (a.Counts.flatMap Tt ++ (U1 (a.States.length : Int) ++ (a.States.flatMap stW ++ a.States.flatMap Da)))))
structure EncOk (K : Nat) (a : aAu) : Prop where
 k : 300 ≤ K
 cl : a.Counts.length < K ∧ a.Counts.length ≤ 9223372036854775807
 sl : a.States.length < K ∧ a.States.length ≤ 9223372036854775807
 cn : ∀ c ∈ a.Counts, fits c.a0 ∧ fits c.a1
 st : ∀ s ∈ a.States, stOk K s ∧ (∀ x ∈ s.L, fits x) ∧ (∀ x ∈ s.R, fits x) ∧ s.Rule.length = s.Next.length
theorem autoEnc_l4 (K : Nat) (hK : 300 ≤ K) (go : aAu → Int → Int → List (List aMv) → Int → Int → List Int → List Int → List Int → List Int → List (List aMv) → Option (List Int × Int)) (a : aAu) (A B : Int) (C : List (List aMv)) (D E : Int) (r : List aMv) (hr : mvOk K r) (b : List Int) (p q u : List Int) (v : List (List aMv)) (hl : b.length + (r.flatMap Hm).length ≤ LIM) :
  X7 K go K a A B C D E r (r.length : Int) (0 : Int) b p q u v = go a A B C D (IntKind.i64.wrap (E + 1)) (b ++ r.flatMap Hm) p q u v := by
 have := Kd Hm r (fun k i b => X7 K go k a A B C D E r (r.length : Int) (i : Int) b p q u v) (fun b => go a A B C D (IntKind.i64.wrap (E + 1)) b p q u v)
  (fun k i h b hb => by
   show X7 K go (k + 1) a A B C D E r (r.length : Int) (i : Int) b p q u v = X7 K go k a A B C D E r (r.length : Int) ((i + 1 : Nat) : Int) _ p q u v
   rw [Hm, List.length_append] at hb
   rw [X7]
   simp only [Xc h, cT, Zf h, bS, Sg K (by omega) b _ (Sf _) (show b.length + (U1 (IntKind.i64.wrap (r[i].To + 1))).length ≤ LIM by omega), Kz (n := i) (by have := hr.2.1; omega),
    Z1 (rm (show (b ++ U1 (IntKind.i64.wrap (r[i].To + 1))).length + r[i].Ops.length ≤ LIM by rw [List.length_append]; omega)), Hm, List.append_assoc])
  (fun k b => by
   show X7 K go (k + 1) a A B C D E r (r.length : Int) (r.length : Int) b p q u v = _
   rw [X7]
   simp only [Z7 (Nat.le_refl _), cF])
  r.length K 0 b (by omega) (by omega) hr.1 (by simpa using hl)
 simpa using this
theorem autoEnc_l3 (K : Nat) (hK : 300 ≤ K) (go : aAu → Int → Int → List Int → Option (List Int × Int)) (a : aAu) (A B : Int) (s : aSt) (hs : stOk K s) (hrn : s.Rule.length = s.Next.length) (b : List Int) (p q : List Int) (hl : b.length + (Da s).length ≤ LIM) :
  Xt K go K a A B s.Next (s.Next.length : Int) (0 : Int) b p q s.Rule s.Next = go a A (IntKind.i64.wrap (B + 1)) (b ++ Da s) := by
 have hz : (s.Rule.zip s.Next).length = s.Next.length := by simp [hrn]
 have := Kd rowW (s.Rule.zip s.Next) (fun k i b => Xt K go k a A B s.Next (s.Next.length : Int) (i : Int) b p q s.Rule s.Next) (fun b => go a A (IntKind.i64.wrap (B + 1)) b)
  (fun k i h b hb => by
   show Xt K go (k + 1) a A B s.Next (s.Next.length : Int) (i : Int) b p q s.Rule s.Next = Xt K go k a A B s.Next (s.Next.length : Int) ((i + 1 : Nat) : Int) _ p q s.Rule s.Next
   have h1 : i < s.Next.length := by omega
   have h2 : i < s.Rule.length := by omega
   have hg : (s.Rule.zip s.Next)[i] = (s.Rule[i], s.Next[i]) := List.getElem_zip ..
   rw [hg, rowW, List.length_append] at hb
   rw [Xt, hg]
   simp only at hb
   simp only [Xc h1, cT, Zf h1, Zf h2, bS, Sg K (by omega) b _ (Sf _) (show b.length + (U1 (IntKind.i64.wrap (s.Rule[i] + 1))).length ≤ LIM by omega)]
   rw [autoEnc_l4 K hK _ a A B s.Next _ _ s.Next[i] (hs.2.2.2.2 _ (List.getElem_mem h1)) _ p q s.Rule s.Next (by rw [List.length_append]; omega), Kz (n := i) (by have := hs.2.2.2.1.2; omega), rowW, List.append_assoc])
  (fun k b => by
   show Xt K go (k + 1) a A B s.Next (s.Next.length : Int) (((s.Rule.zip s.Next).length : Nat) : Int) b p q s.Rule s.Next = _
   rw [Xt, hz]
   simp only [Z7 (Nat.le_refl _), cF])
  s.Next.length K 0 b (by omega) (by omega) hs.2.2.2.1.1 (by simpa [Da] using hl)
 simpa [Da] using this
theorem autoEnc_l2 (K : Nat) (a : aAu) (h : EncOk K a) (b : List Int) (hl : b.length + (a.States.flatMap Da).length ≤ LIM) :
  Xj K K a (a.States.length : Int) (0 : Int) b = some (b ++ a.States.flatMap Da, 0) := by
 have := Kd Da a.States (fun k i b => Xj K k a (a.States.length : Int) (i : Int) b) (fun b => some (b, 0))
  (fun k i hi b hb => by
   show Xj K (k + 1) a (a.States.length : Int) (i : Int) b = Xj K k a (a.States.length : Int) ((i + 1 : Nat) : Int) _
   obtain ⟨h1, _, _, h4⟩ := h.st _ (List.getElem_mem hi)
   rw [Xj]
   simp only [Xc hi, cT, Zf hi, bS]
   rw [autoEnc_l3 K h.k _ a _ _ _ h1 h4 b _ _ hb, Kz (n := i) (by have := h.sl.2; omega)])
  (fun k b => by
   show Xj K (k + 1) a (a.States.length : Int) (a.States.length : Int) b = _
   rw [Xj]
   simp only [Z7 (Nat.le_refl _), cF])
  a.States.length K 0 b (by omega) (by omega) h.sl.1 (by simpa using hl)
 simpa using this
theorem autoEnc_l1 (K : Nat) (a : aAu) (h : EncOk K a) (b : List Int) (hl : b.length + (a.States.flatMap stW).length + (a.States.flatMap Da).length ≤ LIM) :
  Xu K K a (a.States.length : Int) (0 : Int) b = some (b ++ (a.States.flatMap stW ++ a.States.flatMap Da), 0) := by
 have := Kd stW a.States (fun k i b => Xu K k a (a.States.length : Int) (i : Int) b) (fun b => Xj K K a (a.States.length : Int) (0 : Int) b)
  (fun k i hi b hb => by
   show Xu K (k + 1) a (a.States.length : Int) (i : Int) b = Xu K k a (a.States.length : Int) ((i + 1 : Nat) : Int) _
   obtain ⟨h1, h2, h3, _⟩ := h.st _ (List.getElem_mem hi)
   have hk := h.k
   rw [stW, List.length_append] at hb
   rw [Xu]
   simp only [Xc hi, cT, Zf hi, bS]
   rw [autoList K (by omega) b _ h2 h1.1 (by omega), bS, autoList K (by omega) _ _ h3 h1.2.1 (by rw [List.length_append]; omega), bS, Kz (n := i) (by have := h.sl.2; omega), stW, List.append_assoc])
  (fun k b => by
   show Xu K (k + 1) a (a.States.length : Int) (a.States.length : Int) b = _
   rw [Xu]
   simp only [Z7 (Nat.le_refl _), cF])
  a.States.length K 0 b (by omega) (by omega) h.sl.1 (by simp only [List.drop_zero]; omega)
 simp only [List.drop_zero] at this
 rw [autoEnc_l2 K a h _ (by rw [List.length_append]; omega), List.append_assoc] at this
 exact this
theorem autoEnc_l0 (K : Nat) (a : aAu) (h : EncOk K a) (b : List Int) (hl : b.length + (a.Counts.flatMap Tt).length + (U1 (a.States.length : Int)).length + (a.States.flatMap stW).length + (a.States.flatMap Da).length ≤ LIM) :
  X8 K K a (a.Counts.length : Int) (0 : Int) b = some (b ++ (a.Counts.flatMap Tt ++ (U1 (a.States.length : Int) ++ (a.States.flatMap stW ++ a.States.flatMap Da))), 0) := by
 have hk := h.k
 have := Kd Tt a.Counts (fun k i b => X8 K k a (a.Counts.length : Int) (i : Int) b) (fun b => (Lj K (tbw.mk b) [(a.States.length : Int)]).bind fun v => Xu K K a (a.States.length : Int) (0 : Int) v.b)
  (fun k i hi b hb => by
   show X8 K (k + 1) a (a.Counts.length : Int) (i : Int) b = X8 K k a (a.Counts.length : Int) ((i + 1 : Nat) : Int) _
   have h1 := h.cn _ (List.getElem_mem hi)
   have e : List.flatMap U1 [a.Counts[i].a0, a.Counts[i].a1] = Tt a.Counts[i] := by simp [Tt]
   rw [X8]
   simp only [Xc hi, cT, Zf hi, bS]
   rw [autoNums K (by omega) ⟨b⟩ _ (fun x hx => by
    simp only [List.mem_cons, List.not_mem_nil, or_false] at hx
    rcases hx with rfl | rfl
    ·exact h1.1
    ·exact h1.2) ⟨by simp only [List.length_cons, List.length_nil]; omega, by simp⟩ (by rw [e]; exact hb), e, bS, Kz (n := i) (by have := h.cl.2; omega)])
  (fun k b => by
   show X8 K (k + 1) a (a.Counts.length : Int) (a.Counts.length : Int) b = _
   rw [X8]
   simp only [Z7 (Nat.le_refl _), cF])
  a.Counts.length K 0 b (by omega) (by omega) h.cl.1 (by simp only [List.drop_zero]; omega)
 simp only [List.drop_zero] at this
 rw [Sg K (by omega) _ _ (Cp h.sl.2) (by rw [List.length_append]; omega), bS, autoEnc_l1 K a h _ (by simp only [List.length_append]; omega), List.append_assoc, List.append_assoc] at this
 exact this
theorem list_len (n : Nat) (a : Qx) : (Qx.list n a).length = n := by simp [Qx.list]
theorem autoConcat (K : Nat) (hK : 300 ≤ K) (a : Qx) : Uj K [[(114 : Int), (100 : Int), (100 : Int), (108 : Int)], Qx.list 256 a] = some (Te ++ Qx.list 256 a) := by
 obtain ⟨k, rfl⟩ : ∃ k', K = k' + 3 := ⟨K - 3, by omega⟩
 have hg : J1 (k + 3) 260 = some [] := by
  have e : IntKind.i64.wrap ((260 : Int) - IntKind.i64.wrap ((0 : Int) - 0)) = 260 := by simp only [IntKind.wrap_i64]; omega
  have n : Int.toNat (260 : Int) = 260 := rfl
  have n' : Int.toNat (0 : Int) = 0 := rfl
  have e0 : decide ((260 : Int) < 0) = false := rfl
  have e1 : decide ((260 : Int) > 0) = true := rfl
  rw [J1, e, n, n', e0, e1]
  simp only [cT, cF]
  rw [Z1 (by omega), Z1 (rm (by decide)), Z1 ⟨by omega, Nat.zero_le _⟩, List.take_zero]
 have g0 : X4 [[(114 : Int), (100 : Int), (100 : Int), (108 : Int)], Qx.list 256 a] (0 : Int) = some [(114 : Int), (100 : Int), (100 : Int), (108 : Int)] := rfl
 have g1 : X4 [[(114 : Int), (100 : Int), (100 : Int), (108 : Int)], Qx.list 256 a] (1 : Int) = some (Qx.list 256 a) := rfl
 have w0 : IntKind.i64.wrap ((0 : Int) + 1) = 1 := by rw [IntKind.wrap_i64]; omega
 have w1 : IntKind.i64.wrap ((1 : Int) + 1) = 2 := by rw [IntKind.wrap_i64]; omega
 have w2 : IntKind.i64.wrap ((0 : Int) + 4) = 4 := by rw [IntKind.wrap_i64]; omega
 have w3 : IntKind.i64.wrap ((4 : Int) + 256) = 260 := by rw [IntKind.wrap_i64]; omega
 have l4 : (([(114 : Int), (100 : Int), (100 : Int), (108 : Int)].length : Nat) : Int) = 4 := rfl
 have l2 : (([[(114 : Int), (100 : Int), (100 : Int), (108 : Int)], Qx.list 256 a].length : Nat) : Int) = 2 := rfl
 have l3 : ((256 : Nat) : Int) = 256 := rfl
 have d0 : decide ((0 : Int) < 2) = true := rfl
 have d1 : decide ((1 : Int) < 2) = true := rfl
 have d2 : decide ((2 : Int) < 2) = false := rfl
 have n0 : decide ((4 : Int) < 0) = false := rfl
 have n1 : decide ((260 : Int) < 0) = false := rfl
 rw [Uj, l2]
 simp only [Vb, d0, d1, d2, cT, cF, g0, g1, bS, l4, w2, n0, w0, w1, list_len, l3, w3, n1, hg, l2]
 simp only [Va, d0, d1, d2, cT, cF, g0, g1, bS, w0, w1]
 rw [Z1 (rm (by decide)), Z1 (rm (by rw [list_len]; decide))]
 rfl
theorem autoEncode (K : Nat) (a : aAu) (h : EncOk K a) (hr : Gf K a = some true) (hl : (F9 a).length ≤ LIM) : M3 K a = some (F9 a, 0) := by
 have hk := h.k
 simp only [F9, List.length_append] at hl
 rw [M3, hr, bS]
 simp only [Bool.not_true, cF]
 rw [autoConcat K hk, bS, Sg K (by omega) _ _ (Cp h.cl.2) (by rw [List.length_append]; omega), bS, autoEnc_l0 K a h _ (by simp only [List.length_append]; omega)]
 simp [F9, List.append_assoc]
end Go.Rv
namespace Go.Rv
theorem refEnc_l5 (K : Nat) (hK : 300 ≤ K) (go : Int → Int → aAu → List Int → List Int → List Int → List Int → List (List aMv) → Option (List Int × Int)) (a : aAu) (A : Int) (j : Nat) (C : List (List aMv)) (hj : j < C.length) (hr : mvOk K C[j]) (b : List Int) (p q u : List Int) (hl : b.length + (C[j].flatMap Hm).length ≤ LIM) :
  Vf K go K A (j : Int) (0 : Int) a b p q u C = go A (IntKind.i64.wrap ((j : Int) + 1)) a (b ++ C[j].flatMap Hm) p q u C := by
 have := Kd Hm C[j] (fun k i b => Vf K go k A (j : Int) (i : Int) a b p q u C) (fun b => go A (IntKind.i64.wrap ((j : Int) + 1)) a b p q u C)
  (fun k i h b hb => by
   show Vf K go (k + 1) A (j : Int) (i : Int) a b p q u C = Vf K go k A (j : Int) ((i + 1 : Nat) : Int) a _ p q u C
   rw [Hm, List.length_append] at hb
   rw [Vf]
   simp only [Zf hj, Xc h, cT, Zf h, bS, Tr K (by omega) b _ (Sf _) (show b.length + (U1 (IntKind.i64.wrap (C[j][i].To + 1))).length ≤ LIM by omega), Kz (n := i) (by have := hr.2.1; omega),
    Z1 (rm (show (b ++ U1 (IntKind.i64.wrap (C[j][i].To + 1))).length + C[j][i].Ops.length ≤ LIM by rw [List.length_append]; omega)), Hm, List.append_assoc])
  (fun k b => by
   show Vf K go (k + 1) A (j : Int) (C[j].length : Int) a b p q u C = _
   rw [Vf]
   simp only [Zf hj, bS, Z7 (Nat.le_refl _), cF])
  C[j].length K 0 b (by omega) (by omega) hr.1 (by simpa using hl)
 simpa using this
theorem refEnc_l4 (K : Nat) (hK : 300 ≤ K) (go : Int → aAu → List Int → Option (List Int × Int)) (a : aAu) (A : Int) (s : aSt) (hs : stOk K s) (hrn : s.Rule.length = s.Next.length) (b : List Int) (p q : List Int) (hl : b.length + (Da s).length ≤ LIM) :
  Xw K go K A (0 : Int) a b p q s.Rule s.Next = go (IntKind.i64.wrap (A + 1)) a (b ++ Da s) := by
 have hz : (s.Rule.zip s.Next).length = s.Next.length := by simp [hrn]
 have := Kd rowW (s.Rule.zip s.Next) (fun k i b => Xw K go k A (i : Int) a b p q s.Rule s.Next) (fun b => go (IntKind.i64.wrap (A + 1)) a b)
  (fun k i h b hb => by
   show Xw K go (k + 1) A (i : Int) a b p q s.Rule s.Next = Xw K go k A ((i + 1 : Nat) : Int) a _ p q s.Rule s.Next
   have h1 : i < s.Next.length := by omega
   have h2 : i < s.Rule.length := by omega
   have hg : (s.Rule.zip s.Next)[i] = (s.Rule[i], s.Next[i]) := List.getElem_zip ..
   rw [hg, rowW, List.length_append] at hb
   rw [Xw, hg]
   simp only at hb
   simp only [Xc h2, cT, Zf h2, bS, Tr K (by omega) b _ (Sf _) (show b.length + (U1 (IntKind.i64.wrap (s.Rule[i] + 1))).length ≤ LIM by omega)]
   rw [refEnc_l5 K hK _ a A i s.Next h1 (hs.2.2.2.2 _ (List.getElem_mem h1)) _ p q s.Rule (by rw [List.length_append]; omega), Kz (n := i) (by have := hs.2.2.2.1.2; omega), rowW, List.append_assoc])
  (fun k b => by
   show Xw K go (k + 1) A (((s.Rule.zip s.Next).length : Nat) : Int) a b p q s.Rule s.Next = _
   rw [Xw, hz, ← hrn]
   simp only [Z7 (Nat.le_refl _), cF])
  s.Next.length K 0 b (by omega) (by omega) hs.2.2.2.1.1 (by simpa [Da] using hl)
 simpa [Da] using this
theorem refEnc_l3 (K : Nat) (a : aAu) (h : EncOk K a) (b : List Int) (hl : b.length + (a.States.flatMap Da).length ≤ LIM) :
  Xl K K (0 : Int) a b = some (b ++ a.States.flatMap Da, 0) := by
 have := Kd Da a.States (fun k i b => Xl K k (i : Int) a b) (fun b => some (b, 0))
  (fun k i hi b hb => by
   show Xl K (k + 1) (i : Int) a b = Xl K k ((i + 1 : Nat) : Int) a _
   obtain ⟨h1, _, _, h4⟩ := h.st _ (List.getElem_mem hi)
   rw [Xl]
   simp only [Xc hi, cT, Zf hi, bS]
   rw [refEnc_l4 K h.k _ a _ _ h1 h4 b _ _ hb, Kz (n := i) (by have := h.sl.2; omega)])
  (fun k b => by
   show Xl K (k + 1) (a.States.length : Int) a b = _
   rw [Xl]
   simp only [Z7 (Nat.le_refl _), cF])
  a.States.length K 0 b (by omega) (by omega) h.sl.1 (by simpa using hl)
 simpa using this
theorem refEnc_l2 (K : Nat) (a : aAu) (h : EncOk K a) (b : List Int) (hl : b.length + (a.States.flatMap stW).length + (a.States.flatMap Da).length ≤ LIM) :
  Xx K K (0 : Int) a b = some (b ++ (a.States.flatMap stW ++ a.States.flatMap Da), 0) := by
 have := Kd stW a.States (fun k i b => Xx K k (i : Int) a b) (fun b => Xl K K (0 : Int) a b)
  (fun k i hi b hb => by
   show Xx K (k + 1) (i : Int) a b = Xx K k ((i + 1 : Nat) : Int) a _
   obtain ⟨h1, h2, h3, _⟩ := h.st _ (List.getElem_mem hi)
   have hk := h.k
   rw [stW, List.length_append] at hb
   rw [Xx]
   simp only [Xc hi, cT, Zf hi, bS]
   rw [refList K (by omega) b _ h2 h1.1 (by omega), bS, refList K (by omega) _ _ h3 h1.2.1 (by rw [List.length_append]; omega), bS, Kz (n := i) (by have := h.sl.2; omega), stW, List.append_assoc])
  (fun k b => by
   show Xx K (k + 1) (a.States.length : Int) a b = _
   rw [Xx]
   simp only [Z7 (Nat.le_refl _), cF])
  a.States.length K 0 b (by omega) (by omega) h.sl.1 (by simp only [List.drop_zero]; omega)
 simp only [List.drop_zero] at this
 rw [refEnc_l3 K a h _ (by rw [List.length_append]; omega), List.append_assoc] at this
 exact this
theorem refEnc_l1 (K : Nat) (a : aAu) (h : EncOk K a) (b : List Int) (hl : b.length + (a.Counts.flatMap Tt).length + (U1 (a.States.length : Int)).length + (a.States.flatMap stW).length + (a.States.flatMap Da).length ≤ LIM) :
  Xy K K (0 : Int) a b = some (b ++ (a.Counts.flatMap Tt ++ (U1 (a.States.length : Int) ++ (a.States.flatMap stW ++ a.States.flatMap Da))), 0) := by
 have hk := h.k
 have := Kd Tt a.Counts (fun k i b => Xy K k (i : Int) a b) (fun b => (Yn K (Yg.mk b) (a.States.length : Int)).bind fun v => Xx K K (0 : Int) a v.b)
  (fun k i hi b hb => by
   show Xy K (k + 1) (i : Int) a b = Xy K k ((i + 1 : Nat) : Int) a _
   have h1 := h.cn _ (List.getElem_mem hi)
   rw [Tt, List.length_append] at hb
   rw [Xy]
   simp only [Xc hi, cT, Zf hi, bS]
   rw [Tr K (by omega) b _ h1.1 (by omega), bS, Tr K (by omega) _ _ h1.2 (by rw [List.length_append]; omega), bS, Kz (n := i) (by have := h.cl.2; omega), Tt, List.append_assoc])
  (fun k b => by
   show Xy K (k + 1) (a.Counts.length : Int) a b = _
   rw [Xy]
   simp only [Z7 (Nat.le_refl _), cF])
  a.Counts.length K 0 b (by omega) (by omega) h.cl.1 (by simp only [List.drop_zero]; omega)
 simp only [List.drop_zero] at this
 rw [Tr K (by omega) _ _ (Cp h.sl.2) (by rw [List.length_append]; omega), bS, refEnc_l2 K a h _ (by simp only [List.length_append]; omega), List.append_assoc, List.append_assoc] at this
 exact this
theorem refEnc_l0 (K : Nat) (a : aAu) (h : EncOk K a) (b : List Int) (hl : b.length + 256 + (U1 (a.Counts.length : Int)).length + (a.Counts.flatMap Tt).length + (U1 (a.States.length : Int)).length + (a.States.flatMap stW).length + (a.States.flatMap Da).length ≤ LIM) :
  Vg K K (0 : Int) a b = some (b ++ (Qx.list 256 a.Split.Of ++ (U1 (a.Counts.length : Int) ++ (a.Counts.flatMap Tt ++ (U1 (a.States.length : Int) ++ (a.States.flatMap stW ++ a.States.flatMap Da))))), 0) := by
 have hk := h.k
 have hfl : ∀ l : List Nat, l.flatMap (fun i => [a.Split.Of.f i]) = l.map a.Split.Of.f := by
  intro l
  induction l with
  | nil => rfl
  | cons x l ih => simp [List.flatMap_cons, ih]
 have := Kd (fun i => [a.Split.Of.f i]) (List.range 256) (fun k i b => Vg K k (i : Int) a b) (fun b => (Yn K (Yg.mk b) (a.Counts.length : Int)).bind fun v => Xy K K (0 : Int) a v.b)
  (fun k i hi b hb => by
   show Vg K (k + 1) (i : Int) a b = Vg K k ((i + 1 : Nat) : Int) a _
   have hi' : i < 256 := by simpa using hi
   have e0 : decide ((i : Int) < 256) = true := decide_eq_true (by omega)
   rw [Vg]
   simp only [List.length_singleton] at hb
   simp only [e0, cT, Z1 (show 0 ≤ (i : Int) ∧ (i : Int) < 256 by omega), Qx.get, Int.toNat_natCast, Z1 (rm (show b.length + [a.Split.Of.f i].length ≤ LIM by simp only [List.length_singleton]; omega)), Kz (n := i) (by omega), List.getElem_range])
  (fun k b => by
   show Vg K (k + 1) (((List.range 256).length : Nat) : Int) a b = _
   have e0 : decide ((((List.range 256).length : Nat) : Int) < 256) = false := by rw [List.length_range]; rfl
   rw [Vg]
   simp only [e0, cF])
  256 K 0 b (by simp) (by omega) (by omega) (by simp only [List.drop_zero]; rw [hfl, List.length_map, List.length_range]; omega)
 simp only [List.drop_zero] at this
 rw [hfl, show (List.range 256).map a.Split.Of.f = Qx.list 256 a.Split.Of from rfl, Tr K (by omega) _ _ (Cp h.cl.2) (by rw [List.length_append, list_len]; omega), bS, refEnc_l1 K a h _ (by simp only [List.length_append, list_len]; omega), List.append_assoc, List.append_assoc] at this
 exact this
theorem refEncode (K : Nat) (a : aAu) (h : EncOk K a) (hr : Nz K a = some true) (hl : (F9 a).length ≤ LIM) : Bm K a = some (F9 a, 0) := by
 simp only [F9, List.length_append, list_len] at hl
 rw [Bm, hr, bS]
 simp only [Bool.not_true, cF]
 rw [refEnc_l0 K a h _ (by simp only [Te, List.length_cons, List.length_nil] at hl ⊢; omega)]
 rfl
theorem Ka {α : Type} {w : α → List Int} {c : Nat} : ∀ {l : List α}, (∀ x ∈ l, (w x).length ≤ c) → (l.flatMap w).length ≤ l.length * c := by
 intro l
 induction l with
 | nil => intro _; simp
 | cons x l ih =>
  intro h
  have h0 := h x List.mem_cons_self
  have h1 := ih (fun y hy => h y (List.mem_cons_of_mem _ hy))
  rw [List.flatMap_cons, List.length_append, List.length_cons, Nat.succ_mul]
  omega
theorem Ix {b : Int} : ∀ (l : List Int) (last : Int), Ch b last l = true → ∀ x ∈ l, x < b := by
 intro l
 induction l with
 | nil => intro _ _ x hx; cases hx
 | cons n l ih =>
  intro last h x hx
  simp only [Ch, Bool.and_eq_true, Bool.not_eq_true', decide_eq_false_iff_not] at h
  rcases List.mem_cons.1 hx with rfl | hx
  ·omega
  ·exact ih n h.2.2 x hx
structure Yq (a : aAu) : Prop where
 split : Tp a.Split = true
 cl : a.Counts.length ≤ 512
 s0 : 1 ≤ a.States.length
 sl : a.States.length ≤ 256
 first : (a.States.getD 0 ⟨[], [], [], []⟩).L = [] ∧ (a.States.getD 0 ⟨[], [], [], []⟩).R = []
 cn : ∀ c ∈ a.Counts, cntP c = true
 st : ∀ s ∈ a.States, Ha a s = true
theorem rightS {a : aAu} : Fi a = true ↔ Yq a := by
 have hm : ∀ {α : Type} (l : List α) (d : α) (p : α → Bool), Fp (fun i => p (l.getD i d)) l.length 0 = true ↔ ∀ x ∈ l, p x = true := by
  intro α l d p
  rw [E7]
  constructor
  ·intro h x hx
   obtain ⟨i, hi, rfl⟩ := List.getElem_of_mem hx
   have := h i (by omega) (by omega)
   rwa [Ye hi] at this
  ·intro h j h0 h1
   have hj : j < l.length := by omega
   simp only [Ye hj]
   exact h _ (List.getElem_mem hj)
 simp only [Fi, Bool.and_eq_true, Bool.not_eq_true', decide_eq_false_iff_not, hm, beq_iff_eq]
 constructor
 ·rintro ⟨h0, h1, h2, h3, ⟨h4, h5⟩, h6, h7⟩
  exact ⟨h0, by omega, by omega, by omega, ⟨List.length_eq_zero_iff.1 h4, List.length_eq_zero_iff.1 h5⟩, h6, h7⟩
 ·rintro ⟨h0, h1, h2, h3, ⟨h4, h5⟩, h6, h7⟩
  exact ⟨h0, by omega, by omega, by omega, ⟨by rw [h4]; rfl, by rw [h5]; rfl⟩, h6, h7⟩
structure StateS (a : aAu) (s : aSt) : Prop where
 code : Ys s.R.length ≠ 0
 rule : (s.Rule.length : Int) = Ys s.R.length
 next : (s.Next.length : Int) = Ys s.R.length
 l : Iw s.L 512 = true
 r : Iw s.R a.Counts.length = true
 row : ∀ (c : Nat) (h : c < s.Next.length) (h' : c < s.Rule.length), -1 ≤ s.Rule[c] ∧ s.Rule[c] < 512 ∧ (s.Next[c].length : Int) = a.Split.Many ∧ ∀ m ∈ s.Next[c], F8 a s m = true
theorem M8 {a : aAu} {s : aSt} : Ha a s = true ↔ StateS a s := by
 simp only [Ha, Bool.and_eq_true, Bool.not_eq_true', beq_iff_eq, beq_eq_false_iff_ne, E7]
 constructor
 ·rintro ⟨h0, h1, h2, h3, h4, h5⟩
  refine ⟨h0, h1, h2, h3, h4, fun c h h' => ?_⟩
  have := h5 c (by omega) (by omega)
  simp only [rowP, Ye h, Ye h', Bool.and_eq_true, decide_eq_true_eq, beq_iff_eq, E7] at this
  refine ⟨this.1, this.2.1, this.2.2.1, fun m hm => ?_⟩
  obtain ⟨i, hi, rfl⟩ := List.getElem_of_mem hm
  have := this.2.2.2 i (by omega) (by omega)
  rwa [Ye hi] at this
 ·rintro ⟨h0, h1, h2, h3, h4, h5⟩
  refine ⟨h0, h1, h2, h3, h4, fun c _ h => ?_⟩
  have hc : c < s.Next.length := by omega
  have hc' : c < s.Rule.length := by omega
  obtain ⟨g0, g1, g2, g3⟩ := h5 c hc hc'
  simp only [rowP, Ye hc, Ye hc', Bool.and_eq_true, decide_eq_true_eq, beq_iff_eq, E7]
  refine ⟨g0, g1, g2, fun j _ hj => ?_⟩
  have hj' : j < s.Next[c].length := by omega
  rw [Ye hj']
  exact g3 _ (List.getElem_mem hj')
theorem Qbc (n : Int) : Ys n ≤ 27 := by
 simp only [Ys]
 split
 ·omega
 ·split
  ·omega
  ·split
   ·omega
   ·split <;> omega
theorem StateS.rl {a : aAu} {s : aSt} (h : StateS a s) : s.R.length ≤ 3 := by
 have := h.code
 refine Classical.byContradiction fun hn => this ?_
 simp only [Ys]
 rw [if_neg (by omega), if_neg (by omega), if_neg (by omega), if_neg (by omega)]
theorem StateS.ll {a : aAu} {s : aSt} (h : StateS a s) : s.L.length ≤ 512 := by
 rcases Sw s.L (-1) (by omega) h.l with g | g
 ·omega
 ·simp [g]
theorem Yq.many {a : aAu} (h : Yq a) : a.Split.Many ≤ 256 := by
 have := splitF_many a.Split.Of 256 0 0 a.Split.Many h.split
 omega
theorem Yq.stR {a : aAu} (h : Yq a) (m : aMv) : (stR a m).length ≤ 3 := by
 simp only [Go.Rv.stR]
 cases hg : a.States[m.To.toNat]? with
 | none => simp
 | some s =>
  have := (M8.1 (h.st s (List.mem_of_getElem? hg))).rl
  simpa using this
theorem Yq.ops {a : aAu} (h : Yq a) {s : aSt} {m : aMv} (hm : F8 a s m = true) : m.Ops.length ≤ 3 := by
 simp only [F8] at hm
 split at hm
 ·have := beq_iff_eq.1 hm; omega
 ·simp only [Bool.and_eq_true, beq_iff_eq] at hm
  have := h.stR m
  omega
theorem Yq.encOk {a : aAu} (h : Yq a) (ho : Qah a) {K : Nat} (hK : D4 a K) : EncOk K a where
 k := hK.1
 cl := ⟨hK.2.1, ho.counts⟩
 sl := ⟨hK.2.2.1, ho.states⟩
 cn := fun c hc => by
  have := h.cn c hc
  simp only [cntP, Bool.and_eq_true, Bool.not_eq_true', decide_eq_false_iff_not] at this
  simp only [fits]
  omega
 st := fun s hs => by
  have h' := M8.1 (h.st s hs)
  refine ⟨ho.stOk hK hs, fun x hx => ?_, fun x hx => ?_, ?_⟩
  ·have := Ix _ _ h'.l x hx; simp only [fits]; omega
  ·have := Ix _ _ h'.r x hx; have := h.cl; simp only [fits]; omega
  ·have := h'.rule; have := h'.next; omega
theorem Yq.len {a : aAu} (h : Yq a) : (F9 a).length ≤ LIM := by
 have hc : (a.Counts.flatMap Tt).length ≤ a.Counts.length * 18 := Ka fun c _ => by
  have := Co c.a0; have := Co c.a1
  simp only [Tt, List.length_append]; omega
 have hlist : ∀ l : List Int, l.length ≤ 512 → (L9 l).length ≤ 4617 := fun l hl => by
  have h1 := Co (l.length : Int)
  have h2 : (l.flatMap U1).length ≤ l.length * 9 := Ka fun x _ => Co x
  simp only [L9, List.length_append]; omega
 have hs : (a.States.flatMap stW).length ≤ a.States.length * 9234 := Ka fun s hs => by
  have h' := M8.1 (h.st s hs)
  have := hlist s.L h'.ll; have := hlist s.R (by have := h'.rl; omega)
  simp only [stW, List.length_append]; omega
 have hs2 : (a.States.flatMap Da).length ≤ a.States.length * (27 * 3081) := Ka fun s hs => by
  have h' := M8.1 (h.st s hs)
  have hm := h.many
  have hcl := Qbc s.R.length
  have hn := h'.next
  have hr := h'.rule
  have h1 : ((s.Rule.zip s.Next).flatMap rowW).length ≤ (s.Rule.zip s.Next).length * 3081 := Ka fun p hp => by
   obtain ⟨i, hi, rfl⟩ := List.getElem_of_mem hp
   rw [List.length_zip] at hi
   have hg : (s.Rule.zip s.Next)[i] = (s.Rule[i], s.Next[i]) := List.getElem_zip ..
   obtain ⟨_, _, g2, g3⟩ := h'.row i (by omega) (by omega)
   have h1 := Co (IntKind.i64.wrap (s.Rule[i] + 1))
   have h2 : (s.Next[i].flatMap Hm).length ≤ s.Next[i].length * 12 := Ka fun m hm => by
    have := Co (IntKind.i64.wrap (m.To + 1))
    have := h.ops (g3 m hm)
    simp only [Hm, List.length_append]; omega
   rw [hg]
   simp only [rowW, List.length_append]; omega
  rw [List.length_zip] at h1
  have h2 : min s.Rule.length s.Next.length ≤ 27 := by omega
  exact Nat.le_trans h1 (Nat.mul_le_mul_right 3081 h2)
 have h1 := Co (a.Counts.length : Int)
 have h2 := Co (a.States.length : Int)
 have h3 := h.cl
 have h4 := h.sl
 simp only [F9, Te, List.length_append, list_len, List.length_cons, List.length_nil, LIM]
 omega
theorem encode_both (K : Nat) (a : aAu) (ho : Qah a) (hK : D4 a K) : M3 K a = some (if Fi a = true then (F9 a, 0) else ([], 1)) ∧ Bm K a = some (if Fi a = true then (F9 a, 0) else ([], 1)) := by
 have h1 := autoRight K a ho hK
 have h2 := refRight K a ho hK
 by_cases hr : Fi a = true
 ·have hs := rightS.1 hr
  rw [hr] at h1 h2
  rw [if_pos hr]
  exact ⟨autoEncode K a (hs.encOk ho hK) h1 hs.len, refEncode K a (hs.encOk ho hK) h2 hs.len⟩
 ·have hf : Fi a = false := by simpa using hr
  rw [hf] at h1 h2
  rw [if_neg hr, M3, Bm, h1, h2]
  exact ⟨rfl, rfl⟩
end Go.Rv
namespace Go.Rv
theorem shown_add (k : Nat) : Sd (k + 300) = some true := by kernel_rfl
theorem shown_at {K : Nat} (hK : 300 ≤ K) : Sd K = some true := by
 obtain ⟨k, rfl⟩ : ∃ k, K = k + 300 := ⟨K - 300, by omega⟩
 exact shown_add k
end Go.Rv

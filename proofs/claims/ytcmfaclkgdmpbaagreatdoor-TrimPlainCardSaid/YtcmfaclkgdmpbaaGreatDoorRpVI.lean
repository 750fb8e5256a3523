/- Sets of bytes, plainly: four numbers of 64 bits as a predicate on bytes. -/
import Derived.Test.YtcmfaclkgdmpbaaGreatDoorRpUU
namespace Go.Rv
def wd : Nat → (Nat → Bool) → Nat
 | 0, _ => 0
 | n + 1, p => (p 0).toNat + 2 * wd n (fun i => p (i + 1))
theorem wd_lt : ∀ (n : Nat) (p : Nat → Bool), wd n p < 2 ^ n
 | 0, _ => by simp [wd]
 | n + 1, p => by
  have h1 := wd_lt n (fun i => p (i + 1))
  have h2 : (p 0).toNat ≤ 1 := by cases p 0 <;> simp
  simp only [wd, Nat.pow_succ]
  omega
theorem wd_bit : ∀ (n : Nat) (p : Nat → Bool) (j : Nat), (wd n p).testBit j = (decide (j < n) && p j)
 | 0, p, j => by simp [wd]
 | n + 1, p, 0 => by
  have : ((p 0).toNat + 2 * wd n (fun i => p (i + 1))) % 2 = (p 0).toNat := by cases p 0 <;> simp <;> omega
  simp only [wd, Nat.testBit_zero, this]
  cases p 0 <;> simp
 | n + 1, p, j + 1 => by
  have h2 : ((p 0).toNat + 2 * wd n (fun i => p (i + 1))) / 2 = wd n (fun i => p (i + 1)) := by cases p 0 <;> simp <;> omega
  rw [wd, Nat.testBit_succ, h2, wd_bit n _ j]
  simp
theorem eq_wd {n : Nat} {x : Nat} {p : Nat → Bool} (hx : x < 2 ^ n) (h : ∀ j, j < n → x.testBit j = p j) : x = wd n p := by
 apply Nat.eq_of_testBit_eq
 intro j
 rw [wd_bit]
 by_cases hj : j < n
 ·simp [hj, h j hj]
 ·simp only [hj, decide_false, Qik]
  exact Nat.testBit_lt_two_pow (Qhf hx (Nat.pow_le_pow_right (by decide) (by omega)))
theorem wd_congr {n : Nat} {p q : Nat → Bool} (h : ∀ j, j < n → p j = q j) : wd n p = wd n q := eq_wd (wd_lt n p) (fun j hj => by rw [wd_bit, ← h j hj]; simp [hj])
def wdi (p : Nat → Bool) (i : Nat) : Nat := wd 64 (fun j => p (64 * i + j))
theorem wdi_lt (p : Nat → Bool) (i : Nat) : wdi p i < 18446744073709551616 := wd_lt 64 _
theorem Qc2 (p : Nat → Bool) (i j : Nat) (hj : j < 64) : (wdi p i).testBit j = p (64 * i + j) := by simp [wdi, wd_bit, hj]
theorem eq_wdi {x i : Nat} {p : Nat → Bool} (hx : x < 18446744073709551616) (h : ∀ j, j < 64 → x.testBit j = p (64 * i + j)) : x = wdi p i := eq_wd (n := 64) hx h
def st (p : Nat → Bool) : Zh := ⟨(wdi p 0 : Nat), (wdi p 1 : Nat), (wdi p 2 : Nat), (wdi p 3 : Nat)⟩
theorem Tl {p q : Nat → Bool} (h : ∀ b, b < 256 → p b = q b) : st p = st q := by
 have g : ∀ i, i < 4 → wdi p i = wdi q i := fun i hi => wd_congr (fun j hj => h _ (by omega))
 simp only [st, g 0 (by omega), g 1 (by omega), g 2 (by omega), g 3 (by omega)]
theorem st_get (p : Nat → Bool) {i : Nat} (hi : i < 4) : (st p).get (i : Int) = (wdi p i : Nat) := by
 match i, hi with
 | 0, _ => rfl
 | 1, _ => rfl
 | 2, _ => rfl
 | 3, _ => rfl
theorem st_inj {p q : Nat → Bool} (h : st p = st q) : ∀ b, b < 256 → p b = q b := by
 intro b hb
 have hg : (st p).get ((b / 64 : Nat) : Int) = (st q).get ((b / 64 : Nat) : Int) := by rw [h]
 rw [st_get p (by omega), st_get q (by omega)] at hg
 have h1 := Qc2 p (b / 64) (b % 64) (by omega)
 have h2 := Qc2 q (b / 64) (b % 64) (by omega)
 have hn : wdi p (b / 64) = wdi q (b / 64) := by exact_mod_cast hg
 rw [hn, h2] at h1
 rw [Qip] at h1
 exact h1.symm
theorem same_iff (a b : Zh) : a.same b = true ↔ a = b := by
 cases a; cases b
 simp only [Zh.same, Qgv, Qhe, Zh.mk.injEq]
theorem same_st (p q : Nat → Bool) : (st p).same (st q) = true ↔ ∀ b, b < 256 → p b = q b := (same_iff _ _).trans ⟨st_inj, Tl⟩
def pr (a : Zh) (b : Nat) : Bool := (a.get ((b / 64 : Nat) : Int)).toNat.testBit (b % 64)
theorem w8 {n : Nat} (h : n < 256) : IntKind.u8.wrap (n : Int) = n := by rw [IntKind.wrap_u8]; omega
theorem wu64 {n : Int} (h0 : 0 ≤ n) (h1 : n < 18446744073709551616) : IntKind.u64.wrap n = n := by rw [IntKind.wrap_u64]; omega
theorem div64 (b : Nat) (h : b < 256) : IntKind.u8.wrap (Int.tdiv (b : Int) 64) = ((b / 64 : Nat) : Int) := by
 rw [show Int.tdiv (b : Int) 64 = ((b / 64 : Nat) : Int) from (Int.ofNat_tdiv b 64).symm, w8 (by omega)]
theorem mod64 (b : Nat) : Int.tmod (b : Int) 64 = ((b % 64 : Nat) : Int) := (Int.ofNat_tmod b 64).symm
theorem two64 : (2 : Nat) ^ 64 = 18446744073709551616 := by decide
theorem pow_lt (b : Nat) (h : b < 64) : 2 ^ b < 18446744073709551616 := by
 have := Nat.pow_lt_pow_right (a := 2) (by decide) h
 rwa [two64] at this
theorem pow64 (b : Nat) (h : b < 64) : IntKind.u64.wrap (1 * 2 ^ min (Int.toNat (b : Int)) IntKind.u64.bits) = ((2 ^ b : Nat) : Int) := by
 have hb : min (Int.toNat (b : Int)) IntKind.u64.bits = b := by
  simp only [IntKind.bits, Qf1]; omega
 rw [hb, Int.one_mul]
 have h3 : ((2 : Int) ^ b) = ((2 ^ b : Nat) : Int) := by simp
 have h2 := pow_lt b h
 rw [h3]
 generalize 2 ^ b = x at *
 exact wu64 (by omega) (by omega)
theorem orBit (p : Nat → Bool) (b : Nat) (hb : b < 256) : bits .or .u64 (wdi p (b / 64) : Nat) ((2 ^ (b % 64) : Nat) : Int) = (wdi (fun c => p c || c == b) (b / 64) : Nat) := by
 have h2 := pow_lt (b % 64) (Qh6 _ (by decide))
 have h1 := wdi_lt p (b / 64)
 rw [bits_or_u64_nat _ _ h1 h2]
 refine congrArg (Nat.cast (R := Int)) (eq_wdi ?_ (fun j hj => ?_))
 ·rw [← two64] at h1 h2 ⊢
  exact Nat.or_lt_two_pow h1 h2
 rw [Nat.testBit_or, Qc2 p _ j hj, Nat.testBit_two_pow]
 congr 1
 rw [Qh8]
 simp only [Qhc, Qhe]
 omega
theorem st_set (p : Nat → Bool) (b : Nat) (hb : b < 256) : (st p).set ((b / 64 : Nat) : Int) (wdi (fun c => p c || c == b) (b / 64) : Nat) = st (fun c => p c || c == b) := by
 have other : ∀ i, i < 4 → i ≠ b / 64 → wdi p i = wdi (fun c => p c || c == b) i := fun i hi hne => wd_congr (fun j hj => by
  have : (64 * i + j == b) = false := by simp; omega
  simp [this])
 have hb4 : b / 64 < 4 := by omega
 generalize hk : b / 64 = k at *
 match k, hb4 with
 | 0, _ => simp only [st, Zh.set, other 1 (by omega) (by omega), other 2 (by omega) (by omega), other 3 (by omega) (by omega)]; rfl
 | 1, _ => simp only [st, Zh.set, other 0 (by omega) (by omega), other 2 (by omega) (by omega), other 3 (by omega) (by omega)]; rfl
 | 2, _ => simp only [st, Zh.set, other 0 (by omega) (by omega), other 1 (by omega) (by omega), other 3 (by omega) (by omega)]; rfl
 | 3, _ => simp only [st, Zh.set, other 0 (by omega) (by omega), other 1 (by omega) (by omega), other 2 (by omega) (by omega)]; rfl
theorem st_none : (⟨0, 0, 0, 0⟩ : Zh) = st (fun _ => false) := by
 have : ∀ i, wdi (fun _ => false) i = 0 := fun i => (eq_wdi (by decide) (fun j _ => by simp)).symm
 simp [st, this]
def nn (bs : List Nat) : List Int := bs.map Int.ofNat
theorem nn_len (bs : List Nat) : (nn bs).length = bs.length := by simp [nn]
theorem fdivN (x n : Nat) : Int.fdiv (x : Int) (2 ^ n) = ((x / 2 ^ n : Nat) : Int) := by
 rw [Int.fdiv_eq_ediv_of_nonneg _ (by exact_mod_cast Qf7 (2 ^ n))]
 exact_mod_cast rfl
theorem shr64 (x b : Nat) (h : b < 64) : Int.fdiv (x : Int) (2 ^ min (Int.toNat (b : Int)) IntKind.u64.bits) = ((x / 2 ^ b : Nat) : Int) := by
 have hb : min (Int.toNat (b : Int)) IntKind.u64.bits = b := by
  simp only [IntKind.bits, Qf1]; omega
 rw [hb, fdivN]
theorem bit_mod (x b : Nat) : x / 2 ^ b % 2 = (x.testBit b).toNat := by
 rw [Nat.testBit_eq_decide_div_mod_eq]
 have : x / 2 ^ b % 2 = 0 ∨ x / 2 ^ b % 2 = 1 := by omega
 rcases this with h | h <;> rw [h] <;> simp
theorem S7 (K : Nat) (p : Nat → Bool) (b : Nat) (hb : b < 256) : Vf K (st p) (b : Int) = some (p b) := by
 rw [Vf, div64 _ hb, mod64, Z3 ⟨by omega, by omega⟩, Z3 (by omega), st_get p (by omega), shr64 _ _ (Qh6 _ (by decide))]
 have : Int.tmod ((wdi p (b / 64) / 2 ^ (b % 64) : Nat) : Int) 2 = ((wdi p (b / 64) / 2 ^ (b % 64) % 2 : Nat) : Int) := (Int.ofNat_tmod _ 2).symm
 rw [this, bit_mod, Qc2 p _ _ (Qh6 _ (by decide)), Qip]
 cases p b <;> rfl
theorem nn_lt {bs : List Nat} {i : Nat} (h : i < bs.length) : Xl (nn bs) (i : Int) = some ((bs[i] : Nat) : Int) := by
 rw [Ze (by rw [nn_len]; exact h)]
 simp [nn]
theorem add_or (x k : Nat) (hx : x < 18446744073709551616) (hk : k < 64) (hb : x.testBit k = false) : IntKind.u64.wrap ((x : Int) + ((2 ^ k : Nat) : Int)) = bits .or .u64 (x : Int) ((2 ^ k : Nat) : Int) := by
 have hp := pow_lt k hk
 rw [bits_or_u64_nat _ _ hx hp]
 have hand : x &&& 2 ^ k = 0 := by
  apply Nat.eq_of_testBit_eq
  intro j
  rw [Nat.testBit_and, Nat.testBit_two_pow, Nat.zero_testBit]
  by_cases hj : k = j
  ·subst hj; simp [hb]
  ·simp [hj]
 have e1 : x % 2 ^ 64 = x := Nat.mod_eq_of_lt (by rw [two64]; exact hx)
 have e2 : 2 ^ k % 2 ^ 64 = 2 ^ k := Nat.mod_eq_of_lt (by rw [two64]; exact hp)
 have h1 : (BitVec.ofNat 64 x) &&& (BitVec.ofNat 64 (2 ^ k)) = 0#64 := by
  apply BitVec.eq_of_toNat_eq
  rw [BitVec.toNat_and, BitVec.toNat_ofNat, BitVec.toNat_ofNat, e1, e2, hand]
  simp
 have h2 := congrArg BitVec.toNat (BitVec.add_eq_or_of_and_eq_zero _ _ h1)
 rw [BitVec.toNat_add, BitVec.toNat_or, BitVec.toNat_ofNat, BitVec.toNat_ofNat, e1, e2, two64] at h2
 rw [← h2, IntKind.wrap_u64]
 omega
theorem with_spec (K : Nat) (p : Nat → Bool) (b : Nat) (hb : b < 256) : Gf K (st p) (b : Int) = some (st (fun c => p c || c == b)) := by
 rw [Gf, S7 K p b hb, bS]
 cases h : p b with
 | true =>
  simp only [Qg7, cF]
  refine congrArg some (Tl (fun c _ => ?_))
  by_cases hc : c = b
  ·subst hc; simp [h]
  ·simp [hc]
 | false =>
  simp only [Qg2, cT]
  rw [div64 _ hb, mod64, pow64 _ (Qh6 _ (by decide)), Z3 ⟨by omega, by omega⟩, Z3 (by omega), st_get p (by omega), add_or _ _ (wdi_lt _ _) (Qh6 _ (by decide)) ?_, orBit p b hb, st_set p b hb]
  rw [Qc2 p _ _ (Qh6 _ (by decide)), Qip]
  exact h
theorem rOf_l0 (K : Nat) (bs : List Nat) (hb : ∀ b ∈ bs, b < 256) (hl : bs.length < 4611686018427387904) (y : Zh) : ∀ (m k i : Nat) (p : Nat → Bool), bs.length - i = m → i ≤ bs.length → m < k →
  Ui K k (nn bs) (i : Int) y (st p) = some (st (fun c => p c || (bs.drop i).contains c)) := by
 intro m
 induction m with
 | zero =>
  intro k i p hm hi hk
  obtain ⟨k, rfl⟩ := Qjj k (by omega)
  have hi' : i = bs.length := by omega
  rw [Ui]
  simp only [nn_len, hi']
  simp
 | succ m ih =>
  intro k i p hm hi hk
  obtain ⟨k, rfl⟩ := Qjj k (by omega)
  have hlt : i < bs.length := by omega
  have hbi : bs[i] < 256 := hb _ (Qfy hlt)
  have hc : (decide ((i : Int) < ((nn bs).length : Int))) = true := by rw [nn_len]; simp; exact hlt
  rw [Ui]
  simp only [hc, cT, nn_lt hlt, bS, with_spec K p _ hbi, w64 (n := (i : Int) + 1) (by omega) (by omega)]
  rw [show ((i : Int) + 1) = ((i + 1 : Nat) : Int) by omega, ih k (i + 1) _ (by omega) (by omega) (by omega)]
  refine congrArg some (Tl (fun c _ => ?_))
  rw [Qf2 hlt, Qh2, Bool.or_assoc]
theorem rOf_spec (K : Nat) (bs : List Nat) (hb : ∀ b ∈ bs, b < 256) (hl : bs.length < 4611686018427387904) (hK : bs.length < K) : Gk K (nn bs) = some (st (fun c => bs.contains c)) := by
 have := rOf_l0 K bs hb hl (st fun _ => false) bs.length K 0 (fun _ => false) (by omega) (by omega) hK
 rw [Int.ofNat_zero] at this
 rw [Gk, st_none, this]
 simp
end Go.Rv
namespace Go.Rv
def plP (g : Qp) (q : Nat) : Q5 := g.P.getD q ⟨⟨0, 0, 0, 0⟩, 0, 0, 0, false, []⟩
theorem Qcb {g : Qp} {q : Nat} (h : q < g.P.length) : plP g q = g.P[q] := Q2 h
def Qcj (g : Qp) (q b : Nat) : Bool := pr (plP g q).S b
structure GOk (g : Qp) : Prop where
 n : g.P.length ≤ 512
 s : ∀ p ∈ g.P, p.S = st (pr p.S)
 nx : ∀ p ∈ g.P, p.Next.length ≤ 512
 fs : g.First.length ≤ 512
theorem has_ok {g : Qp} (h : GOk g) {K q b : Nat} (hq : q < g.P.length) (hb : b < 256) : Vf K g.P[q].S (b : Int) = some (Qcj g q b) := by
 have := h.s _ (Qfy hq)
 rw [this, S7 K _ b hb, Qcj, Qcb hq]
def digF : List Int → Int → Nat → Int
 | [], _, _ => -1
 | r :: R, n, c => if r = n then ((c % 3 : Nat) : Int) else digF R n (c / 3)
theorem digit_l0 (K : Nat) (b : Qb) (s : Qa) (p : Nat) (hp : p < b.number.length) (hR : s.R.length ≤ 3) : ∀ (q k i c : Nat), s.R.length - i = q → q < k → c < 1000 → Ye K k (c : Int) (p : Int) (i : Int) b s = some (digF (s.R.drop i) (b.number.getD p 0) c) := by
 intro q
 induction q with
 | zero =>
  intro k i c hq hk hc
  obtain ⟨k, rfl⟩ := Qjj k (by omega)
  rw [Ye]
  dsimp only
  rw [Qfv (by omega), cF, Qf9 (by omega), digF]
 | succ q ih =>
  intro k i c hq hk hc
  obtain ⟨k, rfl⟩ := Qjj k (by omega)
  have hi : i < s.R.length := by omega
  have e1 : IntKind.i64.wrap (Int.tdiv (c : Int) 3) = ((c / 3 : Nat) : Int) := by
   rw [show Int.tdiv (c : Int) 3 = ((c / 3 : Nat) : Int) from (Int.ofNat_tdiv c 3).symm, w64 (by omega) (by omega)]
  have e2 : Int.tmod (c : Int) 3 = ((c % 3 : Nat) : Int) := (Int.ofNat_tmod c 3).symm
  rw [Ye]
  dsimp only
  rw [Qf0 (by omega), cT, Ze hi, bS, Ze hp, bS, Qf2 hi, digF, Q2 hp, e1, e2, Bx (n := i) (by omega)]
  by_cases h : s.R[i] = b.number[p]
  ·rw [Qhe.2 h, cT, if_pos h]
  ·rw [Qgd.2 h, cF, if_neg h, ih k (i + 1) (c / 3) (by omega) (by omega) (by omega), Q2 hp]
theorem digit_ok {K : Nat} (hK : 1000 ≤ K) (b : Qb) (s : Qa) {p c : Nat} (hp : p < b.number.length) (hR : s.R.length ≤ 3) (hc : c < 1000) : Ve K b s (c : Int) (p : Int) = some (digF s.R (b.number.getD p 0) c) := by
 have := digit_l0 K b s p hp hR s.R.length K 0 c rfl (by omega) hc
 rw [Qgb, Qgl] at this
 exact this
def ripeF (num R : List Int) (c p : Nat) : Bool := digF R (num.getD p 0) c != 0
theorem ripe_ok {K : Nat} (hK : 1000 ≤ K) (b : Qb) (s : Qa) {p c : Nat} (hp : p < b.number.length) (hR : s.R.length ≤ 3) (hc : c < 1000) : Xm K b s (c : Int) (p : Int) = some (ripeF b.number s.R c p) := by
 rw [Xm, digit_ok hK b s hp hR hc, bS, ripeF]
def Iz (g : Qp) (num R : List Int) (c : Nat) (r : Int) (p : Nat) : Int := if ((plP g p).Last && ripeF num R c p && (decide (r < 0) || decide ((plP g p).Rule < r))) = true then (plP g p).Rule else r
def ruleF (g : Qp) (num : List Int) (L : List Nat) (R : List Int) (c : Nat) : Int := L.foldl (Iz g num R c) (-1)
theorem rule_l0 (K : Nat) (hK : 1000 ≤ K) (b : Qb) (hn : b.number.length = b.g.P.length) (s : Qa) (L : List Nat) (hL : s.L = Zm L) (hLp : ∀ p ∈ L, p < b.g.P.length) (hLl : L.length ≤ 512) (hR : s.R.length ≤ 3) (c : Nat) (hc : c < 1000) : ∀ (q k i : Nat) (r : Int), L.length - i = q → q < k → Zf K k (c : Int) r (i : Int) b s = some ((L.drop i).foldl (Iz b.g b.number s.R c) r) := by
 have hsl : s.L.length = L.length := by rw [hL, Zm, Qfw]
 intro q
 induction q with
 | zero =>
  intro k i r hq hk
  obtain ⟨k, rfl⟩ := Qjj k (by omega)
  rw [Zf]
  dsimp only
  rw [hsl, Qfv (by omega), cF, Qf9 (by omega)]
  rfl
 | succ q ih =>
  intro k i r hq hk
  obtain ⟨k, rfl⟩ := Qjj k (by omega)
  have hi : i < L.length := by omega
  have hp := hLp _ (Qfy hi)
  have hg : Xl s.L (i : Int) = some ((L[i] : Nat) : Int) := by rw [hL, M3 hi, Q2 hi]
  have hih := fun r => ih k (i + 1) r (by omega) (by omega)
  have hw := Bx (n := i) (by omega)
  rw [Zf]
  dsimp only
  rw [hsl, Qf0 (by omega), cT, hg, bS, Ze hp, bS, Qf2 hi, Qgx, ripe_ok hK b s (by omega) hR hc, hw, bS, ← hih, Iz, Qcb hp]
  simp only [Xr, hw]
  cases b.g.P[L[i]].Last with
  | false => simp
  | true =>
   cases ripeF b.number s.R c L[i] with
   | false => simp
   | true =>
    by_cases h1 : r < 0
    ·simp [h1]
    ·by_cases h2 : b.g.P[L[i]].Rule < r
     ·simp [h1, h2]
     ·simp [h1, h2]
theorem rule_ok {K : Nat} (hK : 1000 ≤ K) (b : Qb) (hn : b.number.length = b.g.P.length) (s : Qa) {L : List Nat} (hL : s.L = Zm L) (hLp : ∀ p ∈ L, p < b.g.P.length) (hLl : L.length ≤ 512) (hR : s.R.length ≤ 3) {c : Nat} (hc : c < 1000) : Ux K b s (c : Int) = some (ruleF b.g b.number L s.R c) := by
 have := rule_l0 K hK b hn s L hL hLp hLl hR c hc L.length K 0 (-1) rfl (by omega)
 rw [Qgb, Qgl] at this
 exact this
def entF (g : Qp) (num : List Int) (at0 : Bool) (L : List Nat) (R : List Int) (c q : Nat) : Bool := if at0 = true then g.First.contains (q : Int) else L.any fun p => ripeF num R c p && (plP g p).Next.contains (q : Int)
def Qd3 (num : List Int) (L : List Nat) (R : List Int) (c q : Nat) : Bool := decide (q ∈ L) && (digF R (num.getD q 0) c == 0 || digF R (num.getD q 0) c == 2)
theorem ent_l0 (K : Nat) (hK : 1000 ≤ K) (b : Qb) (hg : GOk b.g) (hn : b.number.length = b.g.P.length) (s : Qa) (L : List Nat) (hL : s.L = Zm L) (hLp : ∀ p ∈ L, p < b.g.P.length) (hLl : L.length ≤ 512) (hR : s.R.length ≤ 3) (c : Nat) (hc : c < 1000) (x : Nat) : ∀ (q k i : Nat), L.length - i = q → q < k → Z2 K k (c : Int) (x : Int) (i : Int) b s = some ((L.drop i).any fun p => ripeF b.number s.R c p && (plP b.g p).Next.contains (x : Int)) := by
 have hsl : s.L.length = L.length := by rw [hL, Zm, Qfw]
 intro q
 induction q with
 | zero =>
  intro k i hq hk
  obtain ⟨k, rfl⟩ := Qjj k (by omega)
  rw [Z2]
  dsimp only
  rw [hsl, Qfv (by omega), cF, Qf9 (by omega)]
  rfl
 | succ q ih =>
  intro k i hq hk
  obtain ⟨k, rfl⟩ := Qjj k (by omega)
  have hi : i < L.length := by omega
  have hp := hLp _ (Qfy hi)
  have hgi : Xl s.L (i : Int) = some ((L[i] : Nat) : Int) := by rw [hL, M3 hi, Q2 hi]
  have hnx := hg.nx _ (Qfy hp)
  rw [Z2]
  dsimp only
  rw [hsl, Qf0 (by omega), cT, hgi, bS, ripe_ok hK b s (by omega) hR hc, bS, Ze hp, bS, refIn K _ _ (by omega) (by omega), bS, Bx (n := i) (by omega), ih k (i + 1) (by omega) (by omega), Qf2 hi, List.any_cons, Qcb hp]
  cases ripeF b.number s.R c L[i] with
  | false => rfl
  | true => cases b.g.P[L[i]].Next.contains (x : Int) <;> rfl
theorem enters_ok {K : Nat} (hK : 1000 ≤ K) (b : Qb) (hg : GOk b.g) (hn : b.number.length = b.g.P.length) (s : Qa) {L : List Nat} (hL : s.L = Zm L) (hLp : ∀ p ∈ L, p < b.g.P.length) (hLl : L.length ≤ 512) (hR : s.R.length ≤ 3) {c : Nat} (hc : c < 1000) (at_ x : Nat) : X0 K b (at_ : Int) s (c : Int) (x : Int) = some (entF b.g b.number (at_ == 0) L s.R c x) := by
 rw [X0, entF]
 by_cases h : at_ = 0
 ·subst h
  have := hg.fs
  rw [show (((0 : Nat) : Int) == (0 : Int)) = true from rfl, cT, refIn K _ _ (by omega) (by omega), bS, if_pos (by decide)]
 ·have := ent_l0 K hK b hg hn s L hL hLp hLl hR c hc x L.length K 0 rfl (by omega)
  rw [Qgb, Qgl] at this
  rw [Qgd.2 (show (at_ : Int) ≠ 0 by omega), cF, Qgd.2 h, if_neg (by decide), this]
theorem castL_mem {L : List Nat} {q : Nat} : (Zm L).contains (q : Int) = decide (q ∈ L) := by
 rw [Qh8, Qih, Qhc, Zm, Qgf]
 constructor
 ·rintro ⟨x, hx, e⟩
  rw [show q = x by omega]; exact hx
 ·intro h; exact ⟨q, h, rfl⟩
theorem stays_ok {K : Nat} (hK : 1000 ≤ K) (b : Qb) (s : Qa) {L : List Nat} (hL : s.L = Zm L) (hLl : L.length ≤ 512) (hR : s.R.length ≤ 3) {c q : Nat} (hc : c < 1000) (hq : q < b.number.length) : Vd K b s (c : Int) (q : Int) = some (Qd3 b.number L s.R c q) := by
 have hsl : s.L.length = L.length := by rw [hL, Zm, Qfw]
 rw [Vd, digit_ok hK b s hq hR hc, bS, refIn K _ _ (by omega) (by omega), bS, hL, castL_mem, Qd3]
 cases decide (q ∈ L) with
 | false => rfl
 | true =>
  rw [cT, Qgs]
  cases digF s.R (b.number.getD q 0) c == 0 <;> rfl
def goesB (g : Qp) (num : List Int) (at0 : Bool) (L : List Nat) (R : List Int) (c b q : Nat) : Bool := Qcj g q b && (entF g num at0 L R c q || Qd3 num L R c q)
def opB (g : Qp) (num : List Int) (at0 : Bool) (L : List Nat) (R : List Int) (c q : Nat) : Int := if (entF g num at0 L R c q && Qd3 num L R c q) = true then 2 else if Qd3 num L R c q = true then 1 else 3
def goL (g : Qp) (num : List Int) (at0 : Bool) (L : List Nat) (R : List Int) (c b : Nat) (l : List Nat) : List Nat := l.filter (goesB g num at0 L R c b)
def opL (g : Qp) (num : List Int) (at0 : Bool) (L : List Nat) (R : List Int) (c : Nat) (l : List Nat) : List Int := (l.filter fun q => decide (0 ≤ num.getD q 0)).map (opB g num at0 L R c)
def Nf (num : List Int) (l : List Nat) : List Int := (l.filter fun q => decide (0 ≤ num.getD q 0)).map fun q => num.getD q 0
theorem goes_l0 (K : Nat) (hK : 1000 ≤ K) (b : Qb) (hg : GOk b.g) (hn : b.number.length = b.g.P.length) (s : Qa) {L : List Nat} (hL : s.L = Zm L) (hLp : ∀ p ∈ L, p < b.g.P.length) (hLl : L.length ≤ 512) (hR : s.R.length ≤ 3) {c : Nat} (hc : c < 1000) (at_ : Nat) (y : Nat) (hy : y < 256) : ∀ (q k i : Nat) (l : List Nat) (o : List Int), b.g.P.length - i = q → q < k → i ≤ b.g.P.length → l.length ≤ i → o.length ≤ i →
  Zb K k (at_ : Int) (c : Int) (y : Int) (i : Int) b s.L s.R s.Rule s.Next (Zm l) o = bif ((l ++ goL b.g b.number (at_ == 0) L s.R c y (List.range' i q)).length : Int) == (0 : Int) then some (⟨-1, []⟩, b) else (Yh K b (Zm (l ++ goL b.g b.number (at_ == 0) L s.R c y (List.range' i q)))).bind fun v => some (⟨v.1, o ++ opL b.g b.number (at_ == 0) L s.R c (goL b.g b.number (at_ == 0) L s.R c y (List.range' i q))⟩, v.2) := by
 have hgn := hg.n
 intro q
 induction q with
 | zero =>
  intro k i l o hq hk hi hl ho
  obtain ⟨k, rfl⟩ := Qjj k (by omega)
  have hcl : (Zm l).length = l.length := by rw [Zm, Qfw]
  rw [Zb]
  dsimp only
  rw [Qfv (by omega), cF, hcl, List.range'_zero, goL, Qje, Qgg, opL, Qje, Qhu, Qgg]
 | succ q ih =>
  intro k i l o hq hk hi hl ho
  obtain ⟨k, rfl⟩ := Qjj k (by omega)
  have hil : i < b.g.P.length := by omega
  have hw := Bx (n := i) (by omega)
  have hcl : (Zm l).length = l.length := by rw [Zm, Qfw]
  have es : (⟨s.L, s.R, s.Rule, s.Next⟩ : Qa) = s := rfl
  have hskip := ih k (i + 1) l o (by omega) (by omega) (by omega) (by omega) (by omega)
  have htake := fun o' ho' => ih k (i + 1) (l ++ [i]) o' (by omega) (by omega) (by omega) (by rw [Qfu, Qft]; omega) ho'
  have ec : Zm l ++ [(i : Int)] = Zm (l ++ [i]) := by simp [Zm]
  simp only [Qfx, Qgw] at htake
  have hnum : Xl b.number (i : Int) = some (b.number.getD i 0) := Qes 0 (by omega)
  have hro8 : roomy 8 ((Zm l).length + [(i : Int)].length) = true := Zl.2 ⟨by simp only [maxLen, Qft]; omega, by simp only [Qft]; omega⟩
  have hro1 : ∀ z : Int, roomy 1 (o.length + [z].length) = true := fun z => Zl.2 ⟨by simp only [maxLen, Qft]; omega, by simp only [Qft]; omega⟩
  rw [Zb]
  dsimp only
  rw [Qf0 (by omega), cT, Ze hil, bS, has_ok hg hil hy, bS, List.range'_succ, hw, es, enters_ok hK b hg hn s hL hLp hLl hR hc at_ i, bS, stays_ok hK b s hL hLl hR hc (by omega), bS, goL, Qhw, goesB]
  cases h1 : Qcj b.g i y with
  | false =>
   rw [Qg2, cT, Qik, if_neg (by decide)]
   exact hskip
  | true =>
   rw [Qg7, cF, Qgs]
   have hj1 : ∀ (e t : Bool), e = entF b.g b.number (at_ == 0) L s.R c i → t = Qd3 b.number L s.R c i → (e || t) = true → Yx K (Zb K k) (at_ : Int) (c : Int) (y : Int) (i : Int) e t b s.L s.R s.Rule s.Next (Zm l) o = bif ((l ++ i :: goL b.g b.number (at_ == 0) L s.R c y (List.range' (i + 1) q)).length : Int) == (0 : Int) then some (⟨-1, []⟩, b) else (Yh K b (Zm (l ++ i :: goL b.g b.number (at_ == 0) L s.R c y (List.range' (i + 1) q)))).bind fun v => some (⟨v.1, o ++ opL b.g b.number (at_ == 0) L s.R c (i :: goL b.g b.number (at_ == 0) L s.R c y (List.range' (i + 1) q))⟩, v.2) := by
    intro e t he ht het
    rw [Yx, Z3 hro8, hnum, bS, ec]
    by_cases h2 : b.number.getD i 0 < 0
    ·have ho2 : opL b.g b.number (at_ == 0) L s.R c (i :: goL b.g b.number (at_ == 0) L s.R c y (List.range' (i + 1) q)) = opL b.g b.number (at_ == 0) L s.R c (goL b.g b.number (at_ == 0) L s.R c y (List.range' (i + 1) q)) := by
      rw [opL, Qhw, Qfv (by omega), if_neg (by decide)]; rfl
     rw [Qf0 h2, cT, hw, htake o (by omega), ho2]
    ·have ho2 : opL b.g b.number (at_ == 0) L s.R c (i :: goL b.g b.number (at_ == 0) L s.R c y (List.range' (i + 1) q)) = opB b.g b.number (at_ == 0) L s.R c i :: opL b.g b.number (at_ == 0) L s.R c (goL b.g b.number (at_ == 0) L s.R c y (List.range' (i + 1) q)) := by
      rw [opL, Qhw, Qf0 (by omega), if_pos rfl, Qge]; rfl
     have hcase : ∀ z : Int, opB b.g b.number (at_ == 0) L s.R c i = z → Zb K k (at_ : Int) (c : Int) (y : Int) ((i + 1 : Nat) : Int) b s.L s.R s.Rule s.Next (Zm (l ++ [i])) (o ++ [z]) = bif ((l ++ i :: goL b.g b.number (at_ == 0) L s.R c y (List.range' (i + 1) q)).length : Int) == (0 : Int) then some (⟨-1, []⟩, b) else (Yh K b (Zm (l ++ i :: goL b.g b.number (at_ == 0) L s.R c y (List.range' (i + 1) q)))).bind fun v => some (⟨v.1, o ++ opL b.g b.number (at_ == 0) L s.R c (i :: goL b.g b.number (at_ == 0) L s.R c y (List.range' (i + 1) q))⟩, v.2) := fun z hz => by
      rw [htake (o ++ [z]) (by rw [Qfu, Qft]; omega), ho2, hz, Qfx, Qgw]
     rw [Qfv h2, cF]
     rw [opB, ← he, ← ht] at hcase
     cases e with
     | true =>
      cases t with
      | true => rw [cT, cT, Z3 (hro1 2), hw]; exact hcase 2 (by decide)
      | false => rw [cT, cF, Yw, cF, Z3 (hro1 3), hw]; exact hcase 3 (by decide)
     | false =>
      cases t with
      | true => rw [cF, Yw, cT, Z3 (hro1 1), hw]; exact hcase 1 (by decide)
      | false => cases het
   cases h2 : entF b.g b.number (at_ == 0) L s.R c i with
   | true =>
    rw [Qg7, cF, Bool.true_or, if_pos rfl, hj1 _ _ h2.symm rfl (by rw [Bool.true_or])]
    rfl
   | false =>
    rw [Qg2, cT, Qh1]
    cases h3 : Qd3 b.number L s.R c i with
    | true =>
     rw [Qg7, cF, if_pos rfl, hj1 _ _ h2.symm h3.symm rfl]
     rfl
    | false =>
     rw [Qg2, cT, if_neg (by decide)]
     exact hskip
end Go.Rv
namespace Go.Rv
theorem find_l1 (K : Nat) (go : (List Int) → Int → Qb → Option (Int × Qb)) (x y : List Int) (h : y.length = x.length) (hl : x.length ≤ 1000) (i : Nat) (hi : i < 1000) (b : Qb) : ∀ (q k j : Nat) (s : Bool), x.length - j = q → q < k → Z7 K go k x (i : Int) y s (j : Int) b = if (s && decide (y.drop j = x.drop j)) = true then some ((i : Int), b) else go x ((i + 1 : Nat) : Int) b := by
 intro q
 induction q with
 | zero =>
  intro k j s hq hk
  obtain ⟨k, rfl⟩ := Qjj k (by omega)
  rw [Z7]
  dsimp only
  rw [Qfv (by omega), cF, Qf9 (by omega), Qf9 (by omega), Qf0 rfl, Bool.and_true, Bx (n := i) (by omega)]
  cases s <;> rfl
 | succ q ih =>
  intro k j s hq hk
  obtain ⟨k, rfl⟩ := Qjj k (by omega)
  have hj : j < x.length := by omega
  have hj' : j < y.length := by omega
  rw [Z7]
  dsimp only
  rw [Qf0 (by omega), cT, Bx (n := j) (by omega)]
  cases s with
  | false => rw [cF, ih k (j + 1) false (by omega) (by omega)]; rfl
  | true =>
   rw [cT, Ze hj', bS, Ze hj, bS, ih k (j + 1) _ (by omega) (by omega), Qf2 hj, Qf2 hj', Qgs]
   by_cases e : y[j] = x[j]
   ·rw [Qhe.2 e, Qgs, e]
    by_cases e2 : y.drop (j + 1) = x.drop (j + 1)
    ·rw [Qf0 e2, e2, Qf0 rfl]
    ·rw [Qfv e2, Qfv fun h => e2 (List.cons.inj h).2]
   ·rw [Qgd.2 e, Qik, Qfv fun h => e (List.cons.inj h).1]
theorem find_l2 (K : Nat) (b : Qb) (l : List Nat) (hl : l.length ≤ 512) (hn : ∀ q ∈ l, q < b.number.length) (hS : b.a.States.length ≤ 256) : ∀ (q k j : Nat) (r : List Int), l.length - j = q → q < k → r.length ≤ j → Zz K k (Zm l) (j : Int) b r =
  if (r ++ Nf b.number (l.drop j)).length > 3 then some (0, ⟨b.g, b.number, b.a, 110⟩) else if b.a.States.length ≥ 256 then some (0, ⟨b.g, b.number, b.a, 3⟩) else some ((b.a.States.length : Int), ⟨b.g, b.number, ⟨b.a.Split, b.a.Counts, b.a.States ++ [⟨Zm l, r ++ Nf b.number (l.drop j), [], []⟩]⟩, b.e⟩) := by
 have hcl : (Zm l).length = l.length := by rw [Zm, Qfw]
 intro q
 induction q with
 | zero =>
  intro k j r hq hk hr
  obtain ⟨k, rfl⟩ := Qjj k (by omega)
  rw [Zz]
  dsimp only
  rw [hcl, Qfv (by omega), cF, Qf9 (by omega), Nf, Qje, Qhu, Qgg]
  by_cases h1 : r.length > 3
  ·rw [Qf0 (by omega), cT, if_pos h1]
  ·rw [Qfv (by omega), cF, if_neg h1]
   by_cases h2 : b.a.States.length ≥ 256
   ·rw [Qf0 (by omega), cT, if_pos h2]
   ·rw [Qfv (by omega), cF, if_neg h2, Z3 (Zl.2 ⟨by simp only [maxLen, Qft]; omega, by simp only [Qft]; omega⟩)]
    have e : IntKind.i64.wrap (((b.a.States ++ [(⟨Zm l, r, [], []⟩ : Qa)]).length : Int) - 1) = (b.a.States.length : Int) := by
     rw [Qfu, Qft, w64 (by omega) (by omega)]; omega
    rw [e]
 | succ q ih =>
  intro k j r hq hk hr
  obtain ⟨k, rfl⟩ := Qjj k (by omega)
  have hj : j < l.length := by omega
  have hq' := hn _ (Qfy hj)
  rw [Zz]
  dsimp only
  rw [hcl, Qf0 (by omega), cT, M3 hj, Q2 hj, bS, Qes 0 hq', bS, Bx (n := j) (by omega), Qf2 hj]
  by_cases h : b.number.getD l[j] 0 ≥ 0
  ·have e : Nf b.number (l[j] :: l.drop (j + 1)) = b.number.getD l[j] 0 :: Nf b.number (l.drop (j + 1)) := by
    rw [Nf, Qhw, Qf0 h, if_pos rfl, Qge]; rfl
   rw [Qf0 h, cT, Z3 (Zl.2 ⟨by simp only [maxLen, Qft]; omega, by simp only [Qft]; omega⟩), ih k (j + 1) _ (by omega) (by omega) (by rw [Qfu, Qft]; omega), e, Qfx, Qgw]
  ·have e : Nf b.number (l[j] :: l.drop (j + 1)) = Nf b.number (l.drop (j + 1)) := by
    rw [Nf, Qhw, Qfv h, if_neg (by decide)]; rfl
   rw [Qfv h, cF, ih k (j + 1) _ (by omega) (by omega) (by omega), e]
theorem find_l0 (K : Nat) (hK : 1000 ≤ K) (b : Qb) (l : List Nat) (hl : l.length ≤ 512) (hn : ∀ q ∈ l, q < b.number.length) (hS : b.a.States.length ≤ 256) : ∀ (q k i : Nat), b.a.States.length - i = q → q < k →
  (∃ j, i ≤ j ∧ j < b.a.States.length ∧ (stA b.a.States j).L = Zm l ∧ Q8 K k (Zm l) (i : Int) b = some ((j : Int), b)) ∨
  ((∀ j, i ≤ j → j < b.a.States.length → (stA b.a.States j).L ≠ Zm l) ∧ Q8 K k (Zm l) (i : Int) b = Zz K K (Zm l) 0 b []) := by
 have hcl : (Zm l).length = l.length := by rw [Zm, Qfw]
 intro q
 induction q with
 | zero =>
  intro k i hq hk
  obtain ⟨k, rfl⟩ := Qjj k (by omega)
  refine .inr ⟨fun j h1 h2 => by omega, ?_⟩
  rw [Q8]
  dsimp only
  rw [Qfv (by omega), cF]
 | succ q ih =>
  intro k i hq hk
  obtain ⟨k, rfl⟩ := Qjj k (by omega)
  have hi : i < b.a.States.length := by omega
  have hst := Ua hi
  by_cases he : (stA b.a.States i).L = Zm l
  ·refine .inl ⟨i, Qf6 _, hi, he, ?_⟩
   rw [hst] at he
   have h1 := find_l1 K (Q8 K k) (Zm l) b.a.States[i].L (by rw [he]) (by omega) i (by omega) b (Zm l).length K 0 true rfl (by omega)
   rw [Qgb, Qgl, Qgl, Qf0 he, if_pos (by decide)] at h1
   rw [Q8]
   dsimp only
   rw [Qf0 (by omega), cT, Ze hi, bS, he, Qg3, cT, ← he, he]
   rw [he] at h1
   exact h1
  ·have hstep : Q8 K (k + 1) (Zm l) (i : Int) b = Q8 K k (Zm l) ((i + 1 : Nat) : Int) b := by
    rw [hst] at he
    rw [Q8]
    dsimp only
    rw [Qf0 (by omega), cT, Ze hi, bS, Bx (n := i) (by omega)]
    by_cases hll : b.a.States[i].L.length = (Zm l).length
    ·have h1 := find_l1 K (Q8 K k) (Zm l) b.a.States[i].L hll (by omega) i (by omega) b (Zm l).length K 0 true rfl (by omega)
     rw [Qgb, Qgl, Qgl, Qfv he, if_neg (by decide)] at h1
     rw [hll, Qg3, cT, h1]
    ·rw [Qgd.2 (by omega), cF]
   rcases ih k (i + 1) (by omega) (by omega) with ⟨j, h1, h2, h3, h4⟩ | ⟨h1, h2⟩
   ·exact .inl ⟨j, by omega, h2, h3, hstep.trans h4⟩
   ·refine .inr ⟨fun j g1 g2 => ?_, hstep.trans h2⟩
    by_cases hj : j = i
    ·rw [hj]; exact he
    ·exact h1 j (by omega) g2
def Lof (S : List Qa) (i : Nat) : List Nat := (stA S i).L.map Int.toNat
def goT (g : Qp) (num : List Int) (F : List Nat) (S : List Qa) (j c k : Nat) : List Nat := goL g num (j == 0) (Lof S j) (stA S j).R c (F.getD k 0) (List.range g.P.length)
def MvI (g : Qp) (num : List Int) (F : List Nat) (S : List Qa) (j c k : Nat) (m : Qd) : Prop :=
 (goT g num F S j c k = [] ∧ m = ⟨-1, []⟩) ∨ (goT g num F S j c k ≠ [] ∧ 1 ≤ m.To ∧ m.To < S.length ∧ (stA S m.To.toNat).L = Zm (goT g num F S j c k) ∧ m.Ops = opL g num (j == 0) (Lof S j) (stA S j).R c (goT g num F S j c k))
structure StI (g : Qp) (num : List Int) (S : List Qa) (i : Nat) : Prop where
 l : (stA S i).L = Zm (Lof S i)
 rise : (Lof S i).Pairwise (· < ·)
 lt : ∀ q ∈ Lof S i, q < g.P.length
 z : i = 0 → Lof S i = []
 nz : 1 ≤ i → Lof S i ≠ []
 r : (stA S i).R = Nf num (Lof S i)
 r3 : (stA S i).R.length ≤ 3
def Qdd (n : Nat) : Nat := (U9 n).toNat
structure Cm (g : Qp) (num : List Int) (F : List Nat) (S : List Qa) (i : Nat) : Prop where
 rule : (stA S i).Rule = (List.range (Qdd (stA S i).R.length)).map fun c => ruleF g num (Lof S i) (stA S i).R c
 nl : (stA S i).Next.length = Qdd (stA S i).R.length
 rl : ∀ c, c < Qdd (stA S i).R.length → ((stA S i).Next.getD c []).length = F.length
 mv : ∀ c, c < Qdd (stA S i).R.length → ∀ k, k < F.length → MvI g num F S i c k (((stA S i).Next.getD c []).getD k ⟨0, []⟩)
structure SI (g : Qp) (num : List Int) (F : List Nat) (S : List Qa) (m : Nat) : Prop where
 n1 : 1 ≤ S.length
 n2 : S.length ≤ 256
 st : ∀ i, i < S.length → StI g num S i
 dist : ∀ i j, 1 ≤ i → 1 ≤ j → i < S.length → j < S.length → (stA S i).L = (stA S j).L → i = j
 done : ∀ i, i < m → Cm g num F S i
 why : ∀ i, 1 ≤ i → i < S.length → ∃ j c k, j < i ∧ c < Qdd (stA S j).R.length ∧ k < F.length ∧ (stA S i).L = Zm (goT g num F S j c k)
def Qfk (S S' : List Qa) : Prop := S.length ≤ S'.length ∧ ∀ i, i < S.length → (stA S' i).L = (stA S i).L ∧ (stA S' i).R = (stA S i).R
theorem Qfp {S S' : List Qa} (h : Qfk S S') {i : Nat} (hi : i < S.length) : Lof S' i = Lof S i := by rw [Lof, Lof, (h.2 i hi).1]
theorem goT_lr {g : Qp} {num : List Int} {F : List Nat} {S S' : List Qa} (h : Qfk S S') {j c k : Nat} (hj : j < S.length) : goT g num F S' j c k = goT g num F S j c k := by rw [goT, goT, Qfp h hj, (h.2 j hj).2]
theorem MvI.lr {g : Qp} {num : List Int} {F : List Nat} {S S' : List Qa} (h : Qfk S S') {j c k : Nat} {m : Qd} (hj : j < S.length) (hm : MvI g num F S j c k m) : MvI g num F S' j c k m := by
 rw [MvI, goT_lr h hj, Qfp h hj, (h.2 j hj).2]
 rcases hm with hm | ⟨h1, h2, h3, h4, h5⟩
 ·exact .inl hm
 ·exact .inr ⟨h1, h2, by have := h.1; omega, by rw [(h.2 _ (by omega)).1]; exact h4, h5⟩
theorem StI.lr {g : Qp} {num : List Int} {S S' : List Qa} (h : Qfk S S') {i : Nat} (hi : i < S.length) (hs : StI g num S i) : StI g num S' i := by
 obtain ⟨h1, h2, h3, h4, h5, h6, h7⟩ := hs
 obtain ⟨e1, e2⟩ := h.2 i hi
 have e3 := Qfp h hi
 exact ⟨by rw [e1, e3]; exact h1, by rw [e3]; exact h2, by rw [e3]; exact h3, by rw [e3]; exact h4, by rw [e3]; exact h5, by rw [e2, e3]; exact h6, by rw [e2]; exact h7⟩
theorem Cm.lr {g : Qp} {num : List Int} {F : List Nat} {S S' : List Qa} (h : Qfk S S') {i : Nat} (hi : i < S.length) (he : stA S' i = stA S i) (hc : Cm g num F S i) : Cm g num F S' i := by
 have e3 := Qfp h hi
 refine ⟨?_, ?_, ?_, ?_⟩
 ·rw [he, e3]; exact hc.rule
 ·rw [he]; exact hc.nl
 ·rw [he]; exact hc.rl
 ·rw [he]; exact fun c h1 k h2 => (hc.mv c h1 k h2).lr h hi
theorem app_lr (S T : List Qa) : Qfk S (S ++ T) ∧ ∀ i, i < S.length → stA (S ++ T) i = stA S i := by
 have h : ∀ i, i < S.length → stA (S ++ T) i = stA S i := fun i hi => by
  rw [Ua (by rw [Qfu]; omega), Ua hi, Qhm hi]
 exact ⟨⟨by rw [Qfu]; omega, fun i hi => by rw [h i hi]; exact ⟨rfl, rfl⟩⟩, h⟩
theorem goT_rise {g : Qp} {num : List Int} {F : List Nat} {S : List Qa} {j c k : Nat} : (goT g num F S j c k).Pairwise (· < ·) ∧ ∀ q ∈ goT g num F S j c k, q < g.P.length := by
 refine ⟨List.Pairwise.filter _ Qix, fun q hq => ?_⟩
 exact Qgo.1 (Qia.1 hq).1
theorem Tj (l : List Nat) : (Zm l).map Int.toNat = l := by
 rw [Zm, Qjc]
 refine (Qja fun x _ => ?_).trans (List.map_id l)
 simp
end Go.Rv
namespace Go.Rv
structure BOk (K : Nat) (g : Qp) (num : List Int) (F : List Nat) (sp : Q4) : Prop where
 gk : GOk g
 num : num.length = g.P.length
 first : Je K sp = some (Zm F)
 many : sp.Many = (F.length : Int)
 lt : ∀ y ∈ F, y < 256
 fl : F.length ≤ 256
theorem Lof_len {g : Qp} {num : List Int} {S : List Qa} {i : Nat} (h : StI g num S i) (hn : g.P.length ≤ 512) : (Lof S i).length ≤ 512 := by
 have := C4 (Lof S i) (List.range g.P.length) (h.rise.imp fun h e => by omega) fun x hx => Qgo.2 (h.lt x hx)
 rw [Qgi] at this
 omega
theorem cod_lt {n : Nat} (h : n ≤ 3) : 1 ≤ Qdd n ∧ Qdd n ≤ 27 ∧ ((Qdd n : Nat) : Int) = U9 n := by
 have : n = 0 ∨ n = 1 ∨ n = 2 ∨ n = 3 := by omega
 rcases this with rfl | rfl | rfl | rfl <;> decide
def Bad (g : Qp) (num : List Int) (F : List Nat) : Prop := ∃ S n j c k, SI g num F S n ∧ j < S.length ∧ (256 ≤ S.length ∨ 3 < (Nf num (goT g num F S j c k)).length)
theorem goes_spec {K : Nat} (hK : 1000 ≤ K) {g : Qp} {num : List Int} {F : List Nat} {sp : Q4} (hb : BOk K g num F sp) (cs : List X2) {S : List Qa} {n : Nat} (hS : SI g num F S n) {at_ c k : Nat} (ha : at_ < S.length) (hc : c < Qdd (stA S at_).R.length) (hk : k < F.length) (hna : n ≤ at_) :
  ∃ m b', Xn K ⟨g, num, ⟨sp, cs, S⟩, 0⟩ (at_ : Int) (c : Int) (k : Int) = some (m, b') ∧ ((b'.e ≠ 0 ∧ Bad g num F) ∨ ∃ T, b' = ⟨g, num, ⟨sp, cs, S ++ T⟩, 0⟩ ∧ SI g num F (S ++ T) n ∧ MvI g num F (S ++ T) at_ c k m) := by
 have hst := hS.st at_ ha
 have hgn := hb.gk.n
 have hcl := cod_lt hst.r3
 have hLl := Lof_len hst hgn
 have hy : F.getD k 0 < 256 := by rw [Q2 hk]; exact hb.lt _ (Qfy hk)
 have hl0 := goes_l0 K hK ⟨g, num, ⟨sp, cs, S⟩, 0⟩ hb.gk hb.num (stA S at_) hst.l hst.lt hLl hst.r3 (c := c) (by omega) at_ (F.getD k 0) hy g.P.length K 0 [] [] rfl (by omega) (Qf7 _) (Qf6 _) (Qf6 _)
 rw [← List.range_eq_range', Qgb] at hl0
 have hgo : goL g num (at_ == 0) (Lof S at_) (stA S at_).R c (F.getD k 0) (List.range g.P.length) = goT g num F S at_ c k := rfl
 dsimp only at hl0
 rw [hgo] at hl0
 simp only [Qf8] at hl0
 have e0 : Zm ([] : List Nat) = [] := rfl
 rw [e0] at hl0
 have hrun : Xn K ⟨g, num, ⟨sp, cs, S⟩, 0⟩ (at_ : Int) (c : Int) (k : Int) = bif ((goT g num F S at_ c k).length : Int) == (0 : Int) then some (⟨-1, []⟩, ⟨g, num, ⟨sp, cs, S⟩, 0⟩) else (Yh K ⟨g, num, ⟨sp, cs, S⟩, 0⟩ (Zm (goT g num F S at_ c k))).bind fun v => some (⟨v.1, opL g num (at_ == 0) (Lof S at_) (stA S at_).R c (goT g num F S at_ c k)⟩, v.2) := by
  rw [Xn]
  dsimp only
  rw [Ze ha, bS, hb.first, bS, M3 hk, bS, ← Ua ha]
  exact hl0
 have hself : S ++ [] = S := Qgg S
 by_cases hnil : goT g num F S at_ c k = []
 ·refine ⟨⟨-1, []⟩, ⟨g, num, ⟨sp, cs, S⟩, 0⟩, ?_, .inr ⟨[], by rw [hself], by rw [hself]; exact hS, by rw [hself]; exact .inl ⟨hnil, rfl⟩⟩⟩
  rw [hrun, hnil]
  rfl
 ·have hne : ((goT g num F S at_ c k).length : Int) ≠ 0 := fun e => hnil (Qhr.1 (by omega))
  obtain ⟨hr1, hr2⟩ := goT_rise (g := g) (num := num) (F := F) (S := S) (j := at_) (c := c) (k := k)
  have hlen : (goT g num F S at_ c k).length ≤ 512 := by
   have := C4 (goT g num F S at_ c k) (List.range g.P.length) (hr1.imp fun h e => by omega) fun x hx => Qgo.2 (hr2 x hx)
   rw [Qgi] at this
   omega
  have hqn : ∀ q ∈ goT g num F S at_ c k, q < num.length := fun q hq => by rw [hb.num]; exact hr2 q hq
  rw [Qgd.2 hne, cF, Yh] at hrun
  rcases find_l0 K hK ⟨g, num, ⟨sp, cs, S⟩, 0⟩ (goT g num F S at_ c k) hlen hqn hS.n2 S.length.pred K 1 (by show S.length - 1 = _; rfl) (by have := hS.n2; show S.length - 1 < K; omega) with ⟨j, h1, h2, h3, h4⟩ | ⟨h1, h2⟩
  ·rw [show (((1 : Nat) : Int)) = (1 : Int) from rfl] at h4
   rw [h4, bS] at hrun
   refine ⟨_, _, hrun, .inr ⟨[], by rw [hself], by rw [hself]; exact hS, ?_⟩⟩
   rw [hself]
   refine .inr ⟨hnil, by dsimp only; omega, by dsimp only at h2 ⊢; omega, ?_, rfl⟩
   dsimp only
   rw [Qf1]
   exact h3
  ·rw [show (((1 : Nat) : Int)) = (1 : Int) from rfl] at h2
   have h5 := find_l2 K ⟨g, num, ⟨sp, cs, S⟩, 0⟩ (goT g num F S at_ c k) hlen hqn hS.n2 (goT g num F S at_ c k).length K 0 [] rfl (by omega) (Qf6 _)
   rw [Qgb, Qgl, Qf8] at h5
   rw [h2, h5] at hrun
   by_cases h3 : (Nf num (goT g num F S at_ c k)).length > 3
   ·rw [if_pos h3, bS] at hrun
    exact ⟨_, _, hrun, .inl ⟨show (110 : Int) ≠ 0 by decide, S, n, at_, c, k, hS, ha, .inr h3⟩⟩
   ·rw [if_neg h3] at hrun
    by_cases h4 : S.length ≥ 256
    ·rw [if_pos h4, bS] at hrun
     exact ⟨_, _, hrun, .inl ⟨show (3 : Int) ≠ 0 by decide, S, n, at_, c, k, hS, ha, .inl h4⟩⟩
    ·rw [if_neg h4, bS] at hrun
     have hlr := app_lr S [(⟨Zm (goT g num F S at_ c k), Nf num (goT g num F S at_ c k), [], []⟩ : Qa)]
     have hl2 : (S ++ [(⟨Zm (goT g num F S at_ c k), Nf num (goT g num F S at_ c k), [], []⟩ : Qa)]).length = S.length + 1 := by rw [Qfu, Qft]
     have hnew : stA (S ++ [(⟨Zm (goT g num F S at_ c k), Nf num (goT g num F S at_ c k), [], []⟩ : Qa)]) S.length = ⟨Zm (goT g num F S at_ c k), Nf num (goT g num F S at_ c k), [], []⟩ := by
      rw [Ua (by omega), Qi7 (Qf6 _)]
      simp
     have hLn : Lof (S ++ [(⟨Zm (goT g num F S at_ c k), Nf num (goT g num F S at_ c k), [], []⟩ : Qa)]) S.length = goT g num F S at_ c k := by rw [Lof, hnew]; exact Tj _
     refine ⟨_, _, hrun, .inr ⟨[⟨Zm (goT g num F S at_ c k), Nf num (goT g num F S at_ c k), [], []⟩], rfl, ?_, ?_⟩⟩
     ·have hn1 := hS.n1
      have hspl : ∀ i, i < S.length + 1 → i < S.length ∨ i = S.length := fun i h => by omega
      refine ⟨by omega, by omega, fun i hi => ?_, fun i j h1i h1j hi hj he => ?_, fun i hi => ?_, fun i h1i hi => ?_⟩
      ·rcases hspl i (by omega) with h | rfl
       ·exact (hS.st i h).lr hlr.1 h
       ·exact ⟨by rw [hLn, hnew], by rw [hLn]; exact hr1, by rw [hLn]; exact hr2, fun e => by omega, fun _ => by rw [hLn]; exact hnil, by rw [hLn, hnew], by rw [hnew]; dsimp only; omega⟩
      ·rcases hspl i (by omega) with h | rfl <;> rcases hspl j (by omega) with h' | rfl
       ·rw [hlr.2 i h, hlr.2 j h'] at he
        exact hS.dist i j h1i h1j h h' he
       ·rw [hlr.2 i h, hnew] at he
        exact absurd he (h1 i h1i h)
       ·rw [hlr.2 j h', hnew] at he
        exact absurd he.symm (h1 j h1j h')
       ·rfl
      ·exact (hS.done i hi).lr hlr.1 (by omega) (hlr.2 i (by omega))
      ·rcases hspl i (by omega) with h | rfl
       ·obtain ⟨j, c', k', g1, g2, g3, g4⟩ := hS.why i h1i h
        exact ⟨j, c', k', g1, by rw [hlr.2 j (by omega)]; exact g2, g3, by rw [hlr.2 i h, goT_lr hlr.1 (by omega)]; exact g4⟩
       ·exact ⟨at_, c, k, ha, by rw [hlr.2 at_ ha]; exact hc, hk, by rw [hnew, goT_lr hlr.1 ha]⟩
     ·rw [MvI, goT_lr hlr.1 ha, Qfp hlr.1 ha, hlr.2 at_ ha]
      refine .inr ⟨hnil, ?_, ?_, ?_, rfl⟩
      ·dsimp only; have := hS.n1; omega
      ·dsimp only; omega
      ·dsimp only; rw [Qf1, hnew]
end Go.Rv
namespace Go.Rv
theorem of_l3 (K : Nat) (hK : 1000 ≤ K) {g : Qp} {num : List Int} {F : List Nat} {sp : Q4} (hb : BOk K g num F sp) (cs : List X2) (n at_ c : Nat) (hna : n ≤ at_) (go : Int → Int → Int → Zn → (List X2) → (List Qa) → (List Int) → (List Q5) → Zn → Int → Int → (List Int) → (List X2) → (List Qa) → (List Int) → (List (List Qd)) → Option (Qn × Int)) (cd : Int) (d1 : Zn) (d2 : List X2) (d3 : List Qa) (ru : List Int) (nx : List (List Qd)) (hnx : nx.length ≤ 100) (hc27 : c < 1000) : ∀ (q k j : Nat) (S : List Qa) (row : List Qd), F.length - j = q → q < k → j ≤ F.length → SI g num F S n → at_ < S.length → c < Qdd (stA S at_).R.length → row.length = j → (∀ i, i < j → MvI g num F S at_ c i (row.getD i ⟨0, []⟩)) →
  (∃ a e, (e ≠ 0 ∧ Bad g num F) ∧ Yy K go k (at_ : Int) cd (c : Int) (j : Int) d1 d2 d3 g.First g.P sp.Of sp.Many 0 num cs S ru nx row = some (a, e)) ∨
  (∃ T row', SI g num F (S ++ T) n ∧ row'.length = F.length ∧ (∀ i, i < F.length → MvI g num F (S ++ T) at_ c i (row'.getD i ⟨0, []⟩)) ∧ Yy K go k (at_ : Int) cd (c : Int) (j : Int) d1 d2 d3 g.First g.P sp.Of sp.Many 0 num cs S ru nx row = go (at_ : Int) cd ((c + 1 : Nat) : Int) d1 d2 d3 g.First g.P sp.Of sp.Many 0 num cs (S ++ T) ru (nx ++ [row'])) := by
 have hfl := hb.fl
 intro q
 induction q with
 | zero =>
  intro k j S row hq hk hj hS ha hc hr hm
  obtain ⟨k, rfl⟩ := Qjj k (by omega)
  have hself : S ++ [] = S := Qgg S
  refine .inr ⟨[], row, by rw [hself]; exact hS, by omega, fun i hi => by rw [hself]; exact hm i (by omega), ?_⟩
  rw [Yy]
  dsimp only
  rw [hb.many, Qfv (by omega), cF, Z3 (Zl.2 ⟨by simp only [maxLen, Qft]; omega, by simp only [Qft]; omega⟩), Bx (n := c) (by omega), hself]
 | succ q ih =>
  intro k j S row hq hk hj hS ha hc hr hm
  obtain ⟨k, rfl⟩ := Qjj k (by omega)
  have hjl : j < F.length := by omega
  obtain ⟨m, b', e1, e2⟩ := goes_spec hK hb cs hS ha hc hjl hna
  have esp : (⟨sp.Of, sp.Many⟩ : Q4) = sp := rfl
  have eg : (⟨g.First, g.P⟩ : Qp) = g := rfl
  have hro : roomy 32 (row.length + [m].length) = true := Zl.2 ⟨by simp only [maxLen, Qft]; omega, by simp only [Qft]; omega⟩
  have hstep : Yy K go (k + 1) (at_ : Int) cd (c : Int) (j : Int) d1 d2 d3 g.First g.P sp.Of sp.Many 0 num cs S ru nx row = bif b'.e != 0 then some (⟨⟨Zn.mk fun _ => 0, 0⟩, [], []⟩, b'.e) else Yy K go k (at_ : Int) cd (c : Int) ((j + 1 : Nat) : Int) d1 d2 d3 b'.g.First b'.g.P b'.a.Split.Of b'.a.Split.Many b'.e b'.number b'.a.Counts b'.a.States ru nx (row ++ [m]) := by
   rw [Yy]
   dsimp only
   rw [Qf0 (by rw [hb.many]; omega), cT, eg, esp, e1, bS]
   dsimp only
   rw [Z3 hro, Bx (n := j) (by omega)]
  rcases e2 with e2 | ⟨T, rfl, h1, h2⟩
  ·refine .inl ⟨⟨⟨Zn.mk fun _ => 0, 0⟩, [], []⟩, b'.e, e2, ?_⟩
   rw [hstep, bne_iff_ne.2 e2.1, cT]
  ·dsimp only at hstep
   rw [bne_self_eq_false, cF] at hstep
   have hlr := app_lr S T
   have ha' : at_ < (S ++ T).length := by rw [Qfu]; omega
   rcases ih k (j + 1) (S ++ T) (row ++ [m]) (by omega) (by omega) (by omega) h1 ha' (by rw [hlr.2 _ ha]; exact hc) (by rw [Qfu, Qft]; omega) (fun i hi => by
    by_cases hij : i < j
    ·have : (row ++ [m]).getD i ⟨0, []⟩ = row.getD i ⟨0, []⟩ := by
      rw [Q2 (by rw [Qfu]; omega), Q2 (by omega), Qhm (by omega)]
     rw [this]
     exact (hm i hij).lr hlr.1 ha
    ·have hij' : i = row.length := by omega
     have : (row ++ [m]).getD i ⟨0, []⟩ = m := by
      rw [Q2 (by rw [Qfu, Qft]; omega)]
      simp [hij']
     rw [this, show i = j by omega]
     exact h2) with ⟨a, e, g1, g2⟩ | ⟨T', row', g1, g2, g3, g4⟩
   ·exact .inl ⟨a, e, g1, hstep.trans g2⟩
   ·rw [Qfx] at g1 g3 g4
    exact .inr ⟨T ++ T', row', g1, g2, g3, hstep.trans g4⟩
theorem of_l2 (K : Nat) (hK : 1000 ≤ K) {g : Qp} {num : List Int} {F : List Nat} {sp : Q4} (hb : BOk K g num F sp) (cs : List X2) (at_ : Nat) (go : Int → Zn → (List X2) → (List Qa) → (List Int) → (List Q5) → Zn → Int → Int → (List Int) → (List X2) → (List Qa) → Option (Qn × Int)) (d1 : Zn) (d2 : List X2) (d3 : List Qa) (R : List Int) (hR : R.length ≤ 3) : ∀ (q k c : Nat) (S : List Qa) (ru : List Int) (nx : List (List Qd)), Qdd R.length - c = q → q < k → c ≤ Qdd R.length → SI g num F S at_ → at_ < S.length → (stA S at_).R = R → ru = (List.range c).map (fun c => ruleF g num (Lof S at_) R c) → nx.length = c → (∀ i, i < c → (nx.getD i []).length = F.length ∧ ∀ k, k < F.length → MvI g num F S at_ i k ((nx.getD i []).getD k ⟨0, []⟩)) →
  (∃ a e, (e ≠ 0 ∧ Bad g num F) ∧ Yf K go k (at_ : Int) (Qdd R.length : Int) (c : Int) d1 d2 d3 g.First g.P sp.Of sp.Many 0 num cs S ru nx = some (a, e)) ∨
  (∃ S', SI g num F S' (at_ + 1) ∧ at_ < S'.length ∧ Yf K go k (at_ : Int) (Qdd R.length : Int) (c : Int) d1 d2 d3 g.First g.P sp.Of sp.Many 0 num cs S ru nx = go ((at_ + 1 : Nat) : Int) d1 d2 d3 g.First g.P sp.Of sp.Many 0 num cs S') := by
 obtain ⟨cl1, cl2, cl3⟩ := cod_lt hR
 intro q
 induction q with
 | zero =>
  intro k c S ru nx hq hk hc hS ha hRe hru hnx hrow
  obtain ⟨k, rfl⟩ := Qjj k (by omega)
  have hc' : c = Qdd R.length := by omega
  subst hc'
  have hst := hS.st at_ ha
  -- the state, with what was found
  have hset : ∀ s' : Qa, s'.L = (stA S at_).L → s'.R = (stA S at_).R → Qfk S (S.set at_ s') := fun s' h1 h2 => by
   refine ⟨by rw [Qgz]; exact Qf6 _, fun i hi => ?_⟩
   by_cases e : at_ = i
   ·subst e
    rw [Ua (by rw [Qgz]; exact hi), Qii]
    exact ⟨h1, h2⟩
   ·rw [Ua (by rw [Qgz]; exact hi), List.getElem_set_ne e, Ua hi]
    exact ⟨rfl, rfl⟩
  have hlr := hset ⟨(stA S at_).L, (stA S at_).R, ru, nx⟩ rfl rfl
  have hat : stA (S.set at_ ⟨(stA S at_).L, (stA S at_).R, ru, nx⟩) at_ = ⟨(stA S at_).L, (stA S at_).R, ru, nx⟩ := by
   rw [Ua (by rw [Qgz]; exact ha), Qii]
  have hoth : ∀ i, i ≠ at_ → stA (S.set at_ ⟨(stA S at_).L, (stA S at_).R, ru, nx⟩) i = stA S i := fun i hi => by
   rw [stA, stA]
   simp only [List.getD, List.getElem?_set_ne (Ne.symm hi)]
   rfl
  have hlen : (S.set at_ ⟨(stA S at_).L, (stA S at_).R, ru, nx⟩).length = S.length := Qgz ..
  have hw := Bx (n := at_) (by have := hS.n2; omega)
  refine .inr ⟨S.set at_ ⟨(stA S at_).L, (stA S at_).R, ru, nx⟩, ?_, by omega, ?_⟩
  ·refine ⟨by have := hS.n1; omega, by have := hS.n2; omega, fun i hi => (hS.st i (by omega)).lr hlr (by omega), fun i j h1 h2 h3 h4 he => ?_, fun i hi => ?_, fun i h1 hi => ?_⟩
   ·rw [(hlr.2 i (by omega)).1, (hlr.2 j (by omega)).1] at he
    exact hS.dist i j h1 h2 (by omega) (by omega) he
   ·by_cases e : i = at_
    ·subst e
     refine ⟨?_, ?_, ?_, ?_⟩
     ·rw [hat, Qfp hlr ha]; dsimp only; rw [hRe, hru]
     ·rw [hat]; dsimp only; rw [hRe]; exact hnx
     ·rw [hat]; dsimp only; rw [hRe]; exact fun c h => (hrow c h).1
     ·rw [hat]; dsimp only; exact fun c h k hk => ((hrow c (by rw [← hRe]; exact h)).2 k hk).lr hlr ha
    ·exact (hS.done i (by omega)).lr hlr (by omega) (hoth i e)
   ·obtain ⟨j, c', k', g1, g2, g3, g4⟩ := hS.why i h1 (by omega)
    exact ⟨j, c', k', g1, by rw [(hlr.2 j (by omega)).2]; exact g2, g3, by rw [(hlr.2 i (by omega)).1, goT_lr hlr (by omega)]; exact g4⟩
  ·have hS1 : (S.set at_ ⟨(stA S at_).L, (stA S at_).R, ru, (stA S at_).Next⟩).length = S.length := Qgz ..
   have hg1 : Xl S (at_ : Int) = some (stA S at_) := by rw [Ze ha, Ua ha]
   have hg2 : Xl (S.set at_ ⟨(stA S at_).L, (stA S at_).R, ru, (stA S at_).Next⟩) (at_ : Int) = some ⟨(stA S at_).L, (stA S at_).R, ru, (stA S at_).Next⟩ := by rw [Ze (by omega), Qii]
   rw [Yf]
   dsimp only
   rw [Qfv (by omega), cF, hg1, bS, Qf1, hg2, bS]
   dsimp only
   rw [Qjh, hw]
 | succ q ih =>
  intro k c S ru nx hq hk hc hS ha hRe hru hnx hrow
  obtain ⟨k, rfl⟩ := Qjj k (by omega)
  have hst := hS.st at_ ha
  have hgn := hb.gk.n
  have hg1 : Xl S (at_ : Int) = some (stA S at_) := by rw [Ze ha, Ua ha]
  have hLl := Lof_len hst hgn
  have hrl : ru.length = c := by rw [hru, Qfw, Qgi]
  have hrule := rule_ok hK ⟨⟨g.First, g.P⟩, num, ⟨⟨sp.Of, sp.Many⟩, cs, S⟩, 0⟩ hb.num (stA S at_) hst.l hst.lt hLl hst.r3 (c := c) (by omega)
  have eg : (⟨g.First, g.P⟩ : Qp) = g := rfl
  dsimp only at hrule
  rw [eg, hRe] at hrule
  have hro : roomy 8 (ru.length + [ruleF g num (Lof S at_) R c].length) = true := Zl.2 ⟨by simp only [maxLen, Qft]; omega, by simp only [Qft]; omega⟩
  have hl3 := of_l3 K hK hb cs at_ at_ c (Qf6 _) (Yf K go k) (Qdd R.length : Int) d1 d2 d3 (ru ++ [ruleF g num (Lof S at_) R c]) nx (by omega) (by omega) F.length K 0 S [] rfl (by have := hb.fl; omega) (Qf7 _) hS ha (by rw [hRe]; omega) rfl (fun i hi => absurd hi (Qhj _))
  rw [Qgb] at hl3
  have hstep : Yf K go (k + 1) (at_ : Int) (Qdd R.length : Int) (c : Int) d1 d2 d3 g.First g.P sp.Of sp.Many 0 num cs S ru nx = Yy K (Yf K go k) K (at_ : Int) (Qdd R.length : Int) (c : Int) 0 d1 d2 d3 g.First g.P sp.Of sp.Many 0 num cs S (ru ++ [ruleF g num (Lof S at_) R c]) nx [] := by
   rw [Yf]
   dsimp only
   rw [Qf0 (by omega), cT, hg1, bS, eg, hrule, bS, Z3 hro]
  rcases hl3 with ⟨a, e, g1, g2⟩ | ⟨T, row', g1, g2, g3, g4⟩
  ·exact .inl ⟨a, e, g1, hstep.trans g2⟩
  ·have hlr := app_lr S T
   have hLe := Qfp hlr.1 ha
   rcases ih k (c + 1) (S ++ T) (ru ++ [ruleF g num (Lof S at_) R c]) (nx ++ [row']) (by omega) (by omega) (by omega) g1 (by rw [Qfu]; omega) (by rw [hlr.2 _ ha]; exact hRe) (by rw [hLe, List.range_succ, Qg5, hru]; rfl) (by rw [Qfu, Qft]; omega) (fun i hi => by
    by_cases hic : i < c
    ·have : (nx ++ [row']).getD i [] = nx.getD i [] := by
      rw [Q2 (by rw [Qfu]; omega), Q2 (by omega), Qhm (by omega)]
     rw [this]
     exact ⟨(hrow i hic).1, fun k hk => ((hrow i hic).2 k hk).lr hlr.1 ha⟩
    ·have hie : i = nx.length := by omega
     have : (nx ++ [row']).getD i [] = row' := by
      rw [Q2 (by rw [Qfu, Qft]; omega)]
      simp [hie]
     rw [this]
     refine ⟨g2, fun k hk => ?_⟩
     rw [show i = c by omega]
     exact g3 k hk) with ⟨a, e, f1, f2⟩ | ⟨S', f1, f2, f3⟩
   ·exact .inl ⟨a, e, f1, hstep.trans (g4.trans f2)⟩
   ·exact .inr ⟨S', f1, f2, hstep.trans (g4.trans f3)⟩
theorem of_l1 (K : Nat) (hK : 1000 ≤ K) {g : Qp} {num : List Int} {F : List Nat} {sp : Q4} (hb : BOk K g num F sp) (cs : List X2) (d1 : Zn) (d2 : List X2) (d3 : List Qa) : ∀ (q k at_ : Nat) (S : List Qa), 256 - at_ = q → q < k → at_ ≤ S.length → SI g num F S at_ →
  (∃ a e, (e ≠ 0 ∧ Bad g num F) ∧ Z6 K k (at_ : Int) d1 d2 d3 g.First g.P sp.Of sp.Many 0 num cs S = some (a, e)) ∨
  (∃ S', SI g num F S' S'.length ∧ Z6 K k (at_ : Int) d1 d2 d3 g.First g.P sp.Of sp.Many 0 num cs S = some (⟨sp, cs, S'⟩, 0)) := by
 intro q
 induction q with
 | zero =>
  intro k at_ S hq hk ha hS
  obtain ⟨k, rfl⟩ := Qjj k (by omega)
  have := hS.n2
  have he : at_ = S.length := by omega
  subst he
  refine .inr ⟨S, hS, ?_⟩
  rw [Z6]
  dsimp only
  rw [Qfv (by omega), cF]
 | succ q ih =>
  intro k at_ S hq hk ha hS
  obtain ⟨k, rfl⟩ := Qjj k (by omega)
  by_cases hal : at_ < S.length
  ·have hst := hS.st at_ hal
   obtain ⟨cl1, cl2, cl3⟩ := cod_lt hst.r3
   have hl2 := of_l2 K hK hb cs at_ (Z6 K k) d1 d2 d3 (stA S at_).R hst.r3 (Qdd (stA S at_).R.length) K 0 S [] [] rfl (by omega) (Qf7 _) hS hal rfl rfl rfl (fun i hi => absurd hi (Qhj _))
   rw [Qgb] at hl2
   have hg1 : Xl S (at_ : Int) = some (stA S at_) := by rw [Ze hal, Ua hal]
   have hstep : Z6 K (k + 1) (at_ : Int) d1 d2 d3 g.First g.P sp.Of sp.Many 0 num cs S = Yf K (Z6 K k) K (at_ : Int) (Qdd (stA S at_).R.length : Int) 0 d1 d2 d3 g.First g.P sp.Of sp.Many 0 num cs S [] [] := by
    rw [Z6]
    dsimp only
    rw [Qf0 (by omega), cT, hg1, bS, refCodes K (by omega), bS, cl3]
   rcases hl2 with ⟨a, e, g1, g2⟩ | ⟨S', g1, g2, g3⟩
   ·exact .inl ⟨a, e, g1, hstep.trans g2⟩
   ·rcases ih k (at_ + 1) S' (by omega) (by omega) (by omega) g1 with ⟨a, e, f1, f2⟩ | ⟨S2, f1, f2⟩
    ·exact .inl ⟨a, e, f1, hstep.trans (g3.trans f2)⟩
    ·exact .inr ⟨S2, f1, hstep.trans (g3.trans f2)⟩
  ·have he : at_ = S.length := by omega
   subst he
   refine .inr ⟨S, hS, ?_⟩
   rw [Z6]
   dsimp only
   rw [Qfv (by omega), cF]
end Go.Rv
namespace Go.Rv
def alkB (l : List Zh) (a b : Nat) : Bool := l.all fun s => pr s a == pr s b
theorem alkB_iff {l : List Zh} {a b : Nat} : alkB l a b = true ↔ ∀ s ∈ l, pr s a = pr s b := by
 simp only [alkB, Qgr, Qhe]
theorem alike_l0 (K : Nat) (l : List Zh) (hl : ∀ s ∈ l, s = st (pr s)) (hn : l.length ≤ 1000) (a b : Nat) (ha : a < 256) (hb : b < 256) : ∀ (q k i : Nat), l.length - i = q → q < k → X7 K k l (a : Int) (b : Int) (i : Int) = some ((l.drop i).all fun s => pr s a == pr s b) := by
 intro q
 induction q with
 | zero =>
  intro k i hq hk
  obtain ⟨k, rfl⟩ := Qjj k (by omega)
  rw [X7]
  dsimp only
  rw [Qfv (by omega), cF, Qf9 (by omega)]
  rfl
 | succ q ih =>
  intro k i hq hk
  obtain ⟨k, rfl⟩ := Qjj k (by omega)
  have hi : i < l.length := by omega
  have hs := hl _ (Qfy hi)
  have h1 := S7 K (pr l[i]) a ha
  have h2 := S7 K (pr l[i]) b hb
  rw [← hs] at h1 h2
  rw [X7]
  dsimp only
  rw [Qf0 (by omega), cT, Ze hi, bS, h1, bS, h2, bS, Bx (n := i) (by omega), ih k (i + 1) (by omega) (by omega), Qf2 hi, List.all_cons]
  cases pr l[i] a <;> cases pr l[i] b <;> rfl
theorem alike_ok {K : Nat} (hK : 2000 ≤ K) {l : List Zh} (hl : ∀ s ∈ l, s = st (pr s)) (hn : l.length ≤ 1000) {a b : Nat} (ha : a < 256) (hb : b < 256) : Lx K l (a : Int) (b : Int) = some (alkB l a b) := by
 have := alike_l0 K l hl hn a b ha hb l.length K 0 rfl (by omega)
 rw [Qgb, Qgl] at this
 exact this
structure SpI (l : List Zh) (F : List Nat) (f : Nat → Int) (b : Nat) : Prop where
 lt : ∀ y ∈ F, y < b
 pw : F.Pairwise (· < ·)
 cls : ∀ i, i < b → ∃ k, k < F.length ∧ f i = (k : Int) ∧ alkB l (F.getD k 0) i = true ∧ F.getD k 0 ≤ i
 own : ∀ k, k < F.length → f (F.getD k 0) = (k : Int)
theorem SpI.len {l : List Zh} {F : List Nat} {f : Nat → Int} {b : Nat} (h : SpI l F f b) : F.length ≤ b := by
 have := C4 F (List.range b) (h.pw.imp fun h e => by omega) fun x hx => Qgo.2 (h.lt x hx)
 rw [Qgi] at this
 exact this
theorem SpI.get {l : List Zh} {F : List Nat} {f : Nat → Int} {b : Nat} (h : SpI l F f b) {k : Nat} (hk : k < F.length) : F.getD k 0 < b := by
 rw [Q2 hk]; exact h.lt _ (Qfy hk)
theorem sp_l1 (K : Nat) (hK : 2000 ≤ K) (l : List Zh) (hl : ∀ s ∈ l, s = st (pr s)) (hn : l.length ≤ 1000) (go : (List Zh) → Int → Zn → Zn → (List Int) → Option Q4) (b : Nat) (hb : b < 256) (F : List Nat) (hF : ∀ y ∈ F, y < 256) (hFl : F.length < 256) (d arr : Zn) : ∀ (q k j : Nat), F.length - j = q → q < k → j ≤ F.length →
  (∃ j', j' < F.length ∧ alkB l (F.getD j' 0) b = true ∧ Yz K go k l (b : Int) (j : Int) d arr (Zm F) = go l ((b + 1 : Nat) : Int) d (Zn.set arr (b : Int) (j' : Int)) (Zm F)) ∨
  (Yz K go k l (b : Int) (j : Int) d arr (Zm F) = go l ((b + 1 : Nat) : Int) d (Zn.set arr (b : Int) (F.length : Int)) (Zm (F ++ [b]))) := by
 have hcl : (Zm F).length = F.length := by rw [Zm, Qfw]
 intro q
 induction q with
 | zero =>
  intro k j hq hk hj
  obtain ⟨k, rfl⟩ := Qjj k (by omega)
  have hj' : j = F.length := by omega
  subst hj'
  refine .inr ?_
  rw [Yz]
  dsimp only
  rw [hcl, Qfv (by omega), cF, Qg3, cT, w8 hb, Z3 (Zl.2 ⟨by simp only [maxLen, Qft]; omega, by simp only [Qft]; omega⟩), Vl, Z3 ⟨by omega, by omega⟩, Bx (n := b) (by omega), w8 hFl]
  rw [show Zm F ++ [(b : Int)] = Zm (F ++ [b]) by simp [Zm]]
 | succ q ih =>
  intro k j hq hk hj
  obtain ⟨k, rfl⟩ := Qjj k (by omega)
  have hj' : j < F.length := by omega
  have hy : F.getD j 0 < 256 := by rw [Q2 hj']; exact hF _ (Qfy hj')
  have hstep : Yz K go (k + 1) l (b : Int) (j : Int) d arr (Zm F) = bif (!alkB l (F.getD j 0) b) then Yz K go k l (b : Int) ((j + 1 : Nat) : Int) d arr (Zm F) else go l ((b + 1 : Nat) : Int) d (Zn.set arr (b : Int) (j : Int)) (Zm F) := by
   rw [Yz]
   dsimp only
   rw [hcl, Qf0 (by omega), cT, M3 hj', bS, w8 hb, alike_ok hK hl hn hy hb, bS, Bx (n := j) (by omega), Qgd.2 (show (j : Int) ≠ (F.length : Int) by omega), cF, Vl, Z3 ⟨by omega, by omega⟩, Bx (n := b) (by omega), w8 (show j < 256 by omega)]
  cases h : alkB l (F.getD j 0) b with
  | true =>
   rw [h, Qg7, cF] at hstep
   exact .inl ⟨j, hj', h, hstep⟩
  | false =>
   rw [h, Qg2, cT] at hstep
   rcases ih k (j + 1) (by omega) (by omega) (by omega) with ⟨j', h1, h2, h3⟩ | h3
   ·exact .inl ⟨j', h1, h2, hstep.trans h3⟩
   ·exact .inr (hstep.trans h3)
theorem arr_set (a : Zn) (b : Nat) (v : Int) (i : Nat) : (Zn.set a (b : Int) v).f i = if i = b then v else a.f i := by
 rw [Zn.set, Qf1]
theorem sp_l0 (K : Nat) (hK : 2000 ≤ K) (l : List Zh) (hl : ∀ s ∈ l, s = st (pr s)) (hn : l.length ≤ 1000) (d : Zn) : ∀ (q k b : Nat) (F : List Nat) (arr : Zn), 256 - b = q → q < k → b ≤ 256 → SpI l F arr.f b → ∃ F' arr', SpI l F' arr'.f 256 ∧ Y0 K k l (b : Int) d arr (Zm F) = some ⟨arr', (F'.length : Int)⟩ := by
 intro q
 induction q with
 | zero =>
  intro k b F arr hq hk hb hI
  obtain ⟨k, rfl⟩ := Qjj k (by omega)
  have hb' : b = 256 := by omega
  subst hb'
  refine ⟨F, arr, hI, ?_⟩
  rw [Y0]
  dsimp only
  rw [Qfv (by omega), cF, Zm, Qfw]
 | succ q ih =>
  intro k b F arr hq hk hb hI
  obtain ⟨k, rfl⟩ := Qjj k (by omega)
  have hbl : b < 256 := by omega
  have hlen := hI.len
  have h1 := sp_l1 K hK l hl hn (Y0 K k) b hbl F (fun y hy => by have := hI.lt y hy; omega) (by omega) d arr F.length K 0 rfl (by omega) (Qf7 _)
  have hstep : Y0 K (k + 1) l (b : Int) d arr (Zm F) = Yz K (Y0 K k) K l (b : Int) 0 d arr (Zm F) := by
   rw [Y0]
   dsimp only
   rw [Qf0 (by omega), cT]
  rw [Qgb] at h1
  rcases h1 with ⟨j, h1, h2, h3⟩ | h3
  ·obtain ⟨F', arr', g1, g2⟩ := ih k (b + 1) F (Zn.set arr (b : Int) (j : Int)) (by omega) (by omega) (by omega) (by
    refine ⟨fun y hy => by have := hI.lt y hy; omega, hI.pw, fun i hi => ?_, fun k' hk' => ?_⟩
    ·rw [arr_set]
     by_cases e : i = b
     ·rw [if_pos e]
      have := hI.get h1
      exact ⟨j, h1, rfl, by rw [e]; exact h2, by omega⟩
     ·rw [if_neg e]
      exact hI.cls i (by omega)
    ·rw [arr_set, if_neg (by have := hI.get hk'; omega)]
     exact hI.own k' hk')
   exact ⟨F', arr', g1, hstep.trans (h3.trans g2)⟩
  ·obtain ⟨F', arr', g1, g2⟩ := ih k (b + 1) (F ++ [b]) (Zn.set arr (b : Int) (F.length : Int)) (by omega) (by omega) (by omega) (by
    have hl' : ∀ k', k' < F.length → (F ++ [b]).getD k' 0 = F.getD k' 0 := fun k' hk' => by
     rw [Q2 (by rw [Qfu]; omega), Q2 hk', Qhm hk']
    have hr' : (F ++ [b]).getD F.length 0 = b := by
     rw [Q2 (by rw [Qfu, Qft]; omega)]
     simp
    refine ⟨fun y hy => ?_, ?_, fun i hi => ?_, fun k' hk' => ?_⟩
    ·rcases Qfz.1 hy with h | h
     ·have := hI.lt y h; omega
     ·have := Qf3.1 h; omega
    ·refine List.pairwise_append.2 ⟨hI.pw, Qh4 _ _, fun x hx y hy => ?_⟩
     rw [Qf3.1 hy]; exact hI.lt x hx
    ·rw [arr_set]
     by_cases e : i = b
     ·rw [if_pos e]
      refine ⟨F.length, by rw [Qfu, Qft]; omega, rfl, ?_, by omega⟩
      rw [hr', e]
      exact alkB_iff.2 fun _ _ => rfl
     ·rw [if_neg e]
      obtain ⟨k', e1, e2, e3, e4⟩ := hI.cls i (by omega)
      exact ⟨k', by rw [Qfu]; omega, e2, by rw [hl' k' e1]; exact e3, by rw [hl' k' e1]; exact e4⟩
    ·rw [Qfu, Qft] at hk'
     rw [arr_set]
     by_cases e : k' = F.length
     ·rw [e, hr', if_pos rfl]
     ·rw [hl' k' (by omega), if_neg (by have := hI.get (show k' < F.length by omega); omega)]
      exact hI.own k' (by omega))
   exact ⟨F', arr', g1, hstep.trans (h3.trans g2)⟩
theorem sp_ok {K : Nat} (hK : 2000 ≤ K) {l : List Zh} (hl : ∀ s ∈ l, s = st (pr s)) (hn : l.length ≤ 1000) : ∃ F s, Kq K l = some s ∧ SpI l F s.Of.f 256 ∧ s.Many = (F.length : Int) := by
 obtain ⟨F, arr, h1, h2⟩ := sp_l0 K hK l hl hn (Zn.mk fun _ => 0) 256 K 0 [] (Zn.mk fun _ => 0) rfl (by omega) (by omega) ⟨(fun y hy => nomatch hy), List.Pairwise.nil, fun i hi => absurd hi (Qhj _), fun k hk => absurd hk (Qhj _)⟩
 rw [Qgb] at h2
 exact ⟨F, ⟨arr, (F.length : Int)⟩, h2, h1, rfl⟩
theorem sp_right {l : List Zh} {F : List Nat} {a : Zn} (h : SpI l F a.f 256) : ∀ (m b n : Nat), b + m = 256 → n ≤ F.length → (∀ k, k < n → F.getD k 0 < b) → (∀ k, n ≤ k → k < F.length → b ≤ F.getD k 0) → P6 a m b (n : Int) (F.length : Int) = true := by
 have hlt : ∀ i j, i < j → j < F.length → F.getD i 0 < F.getD j 0 := fun i j hi hj => by
  rw [Q2 (by omega), Q2 hj]
  exact Qij.1 h.pw i j _ _ hi
 intro m
 induction m with
 | zero =>
  intro b n hb hn h1 h2
  have : n = F.length := by
   by_cases e : n < F.length
   ·have := h2 n (Qf6 _) e
    have := h.get e
    omega
   ·omega
  rw [P6, this, Qg3]
 | succ m ih =>
  intro b n hb hn h1 h2
  obtain ⟨k, g1, g2, _, g4⟩ := h.cls b (by omega)
  have hk : k ≤ n := by
   by_cases e : n < k
   ·have := h2 n (Qf6 _) (by omega)
    have := hlt n k e g1
    omega
   ·omega
  rw [P6, g2, if_neg (by omega)]
  by_cases e : k = n
  ·subst e
   have := h2 k (Qf6 _) g1
   rw [if_pos rfl, show ((k : Int) + 1) = ((k + 1 : Nat) : Int) by omega]
   refine ih (b + 1) (k + 1) (by omega) (by omega) (fun j hj => ?_) fun j hj hl => ?_
   ·by_cases e : j = k
    ·rw [e]; omega
    ·have := h1 j (by omega); omega
   ·have := hlt k j (by omega) hl; omega
  ·rw [if_neg (by omega)]
   refine ih (b + 1) n (by omega) hn (fun j hj => by have := h1 j hj; omega) fun j hj hl => ?_
   have h3 := h2 j hj hl
   by_cases e2 : F.getD j 0 = b
   ·have := h.own j hl
    rw [e2, g2] at this
    omega
   ·omega
theorem SpI.right {l : List Zh} {F : List Nat} {s : Q4} (h : SpI l F s.Of.f 256) (hm : s.Many = (F.length : Int)) : splitS s = true := by
 rw [splitS, hm]
 exact sp_right h 256 0 0 rfl (Qf7 _) (fun k hk => absurd hk (Qhj _)) (fun k _ _ => Qf7 _)
end Go.Rv
namespace Go.Rv
theorem Qde (l : List Nat) (x : Nat) : Zm l ++ [(x : Int)] = Zm (l ++ [x]) := by simp [Zm]
theorem Oy (l : List Nat) : (Zm l).length = l.length := by rw [Zm, Qfw]
theorem filter_head {p : Nat → Bool} {y : Nat} (hp : p y = true) : ∀ (m i : Nat), i ≤ y → y < i + m → (∀ j, i ≤ j → j < y → p j = false) → ∃ t, (List.range' i m).filter p = y :: t := by
 intro m
 induction m with
 | zero => intro i h1 h2; omega
 | succ m ih =>
  intro i h1 h2 h3
  rw [List.range'_succ]
  by_cases e : i = y
  ·subst e
   exact ⟨_, List.filter_cons_of_pos hp⟩
  ·rw [List.filter_cons_of_neg (by rw [h3 i (Qf6 _) (by omega)]; decide)]
   exact ih (i + 1) (by omega) (by omega) fun j g1 g2 => h3 j (by omega) g2
theorem set_l0 (K : Nat) (hK : 2000 ≤ K) (s : Q4) (hs : ∀ i, i < 256 → 0 ≤ s.Of.f i ∧ s.Of.f i < 256) (x : Int) (d : Zh) : ∀ (q k i : Nat) (o : List Nat), 256 - i = q → q < k → i ≤ 256 → o.length ≤ i → (∀ b ∈ o, b < 256) → Va K k x (i : Int) s d (Zm o) = some (st fun c => (o ++ (List.range' i q).filter fun b => s.Of.f b == x).contains c) := by
 intro q
 induction q with
 | zero =>
  intro k i o hq hk hi ho hb
  obtain ⟨k, rfl⟩ := Qjj k (by omega)
  have := rOf_spec K o hb (by omega) (by omega)
  rw [Va]
  dsimp only
  rw [Qfv (by omega), cF, List.range'_zero, Qje, Qgg]
  rw [show Zm o = nn o from rfl, this, bS]
 | succ q ih =>
  intro k i o hq hk hi ho hb
  obtain ⟨k, rfl⟩ := Qjj k (by omega)
  have hl : i < 256 := by omega
  have hg : IntKind.i64.wrap (Zn.get s.Of (i : Int)) = s.Of.f i := by
   have := hs i hl
   rw [Zn.get, Qf1, w64 (by omega) (by omega)]
  rw [Va]
  dsimp only
  rw [Qf0 (by omega), cT, Z3 ⟨by omega, by omega⟩, hg, w8 hl, Qde, Oy, Z3 (Zl.2 ⟨by simp only [maxLen, Qft]; omega, by simp only [Qft]; omega⟩), Bx (n := i) (by omega), List.range'_succ, Qhw]
  cases h : s.Of.f i == x with
  | true =>
   rw [cT, if_pos rfl, ih k (i + 1) (o ++ [i]) (by omega) (by omega) (by omega) (by rw [Qfu, Qft]; omega) (fun b hb' => by
    rcases Qfz.1 hb' with h | h
    ·exact hb b h
    ·rw [Qf3.1 h]; exact hl), Qfx, Qgw]
  | false => rw [cF, if_neg (by decide), ih k (i + 1) o (by omega) (by omega) (by omega) (by omega) hb]
theorem set_ok {K : Nat} (hK : 2000 ≤ K) {s : Q4} (hs : ∀ i, i < 256 → 0 ≤ s.Of.f i ∧ s.Of.f i < 256) (x : Int) : Ld K s x = some (st fun c => s.Of.f c == x) := by
 have := set_l0 K hK s hs x (Zh.mk 0 0 0 0) 256 K 0 [] rfl (by omega) (by omega) (Qf6 _) (fun b hb => nomatch hb)
 rw [Qgb, Qf8] at this
 rw [Ld]
 refine this.trans (congrArg some (Tl fun b hb => ?_))
 rw [Qh8, Qih, Qia, List.mem_range'_1]
 exact ⟨fun h => h.2, fun h => ⟨by omega, h⟩⟩
theorem list_l0 (K : Nat) (p : Nat → Bool) : ∀ (q k i : Nat) (o : List Nat), 256 - i = q → q < k → i ≤ 256 → o.length ≤ i → Xs K k (i : Int) (st p) (Zm o) = some (Zm (o ++ (List.range' i q).filter p)) := by
 intro q
 induction q with
 | zero =>
  intro k i o hq hk hi ho
  obtain ⟨k, rfl⟩ := Qjj k (by omega)
  rw [Xs]
  dsimp only
  rw [Qfv (by omega), cF, List.range'_zero, Qje, Qgg]
 | succ q ih =>
  intro k i o hq hk hi ho
  obtain ⟨k, rfl⟩ := Qjj k (by omega)
  have hl : i < 256 := by omega
  rw [Xs]
  dsimp only
  rw [Qf0 (by omega), cT, w8 hl, S7 K p i hl, bS, Qde, Oy, Z3 (Zl.2 ⟨by simp only [maxLen, Qft]; omega, by simp only [Qft]; omega⟩), Bx (n := i) (by omega), List.range'_succ, Qhw]
  cases h : p i with
  | true => rw [cT, if_pos rfl, ih k (i + 1) (o ++ [i]) (by omega) (by omega) (by omega) (by rw [Qfu, Qft]; omega), Qfx, Qgw]
  | false => rw [cF, if_neg (by decide), ih k (i + 1) o (by omega) (by omega) (by omega) (by omega)]
theorem first_l1 (K : Nat) (hK : 2000 ≤ K) {l : List Zh} {F : List Nat} {s : Q4} (h : SpI l F s.Of.f 256) (hm : s.Many = (F.length : Int)) : ∀ (q k j : Nat), F.length - j = q → q < k → j ≤ F.length → Xa K k (j : Int) s (Zm (F.take j)) = some (Zm F) := by
 have hlen := h.len
 have hs : ∀ i, i < 256 → 0 ≤ s.Of.f i ∧ s.Of.f i < 256 := fun i hi => by
  obtain ⟨k, h1, h2, _⟩ := h.cls i hi
  omega
 have hpw : ∀ i j, i < j → j < F.length → F.getD i 0 < F.getD j 0 := fun i j hi hj => by
  rw [Q2 (by omega), Q2 hj]
  exact Qij.1 h.pw i j _ _ hi
 intro q
 induction q with
 | zero =>
  intro k j hq hk hj
  obtain ⟨k, rfl⟩ := Qjj k (by omega)
  rw [Xa]
  dsimp only
  rw [hm, Qfv (by omega), cF, Qg8 (by omega)]
 | succ q ih =>
  intro k j hq hk hj
  obtain ⟨k, rfl⟩ := Qjj k (by omega)
  have hjl : j < F.length := by omega
  obtain ⟨t, ht⟩ := filter_head (p := fun c => s.Of.f c == (j : Int)) (y := F.getD j 0) (Qhe.2 (h.own j hjl)) 256 0 (Qf7 _) (by have := h.get hjl; omega) (fun i _ hi => by
   rw [Qgd]
   intro e
   obtain ⟨k', g1, g2, _, g4⟩ := h.cls i (by have := h.get hjl; omega)
   have : k' = j := by omega
   subst this
   omega)
  have hl := list_l0 K (fun c => s.Of.f c == (j : Int)) 256 K 0 [] rfl (by omega) (by omega) (Qf6 _)
  rw [Qgb, Qf8, ht, show Zm [] = ([] : List Int) from rfl] at hl
  have hlen2 : (Zm (F.take j)).length = j := by rw [Oy, Qgn]; omega
  have hg : Xl (Zm (F.getD j 0 :: t)) 0 = some ((F.getD j 0 : Nat) : Int) := rfl
  rw [Xa]
  dsimp only
  rw [hm, Qf0 (by omega), cT, set_ok hK hs, bS, Ku, hl, bS, Oy, Qgc, Qgd.2 (by omega), cF, hg, bS, Z3 (Zl.2 ⟨by simp only [maxLen, Qft]; omega, by simp only [Qft]; omega⟩), Bx (n := j) (by omega), Qde, Q2 hjl, ← Sn hjl]
  exact ih k (j + 1) (by omega) (by omega) (by omega)
theorem first_ok {K : Nat} (hK : 2000 ≤ K) {l : List Zh} {F : List Nat} {s : Q4} (h : SpI l F s.Of.f 256) (hm : s.Many = (F.length : Int)) : Je K s = some (Zm F) := by
 have hlen := h.len
 have h1 : 1 ≤ F.length := by
  obtain ⟨k, h1, _⟩ := h.cls 0 (by omega)
  omega
 have := first_l1 K hK h hm F.length K 0 rfl (by omega) (Qf7 _)
 rw [Qgb] at this
 rw [Je, Qfv (by omega), cF, Qfv (by omega), cF]
 exact this
theorem rises9_l0 (K : Nat) : ∀ (k : Nat) (x : List Int) (b i : Int), X5 K k x b i = Y9 K k x b i := by
 intro k
 induction k with
 | zero => intros; rfl
 | succ k ih =>
  intro x b i
  rw [X5, Y9]
  simp only [ih, Vy, U0]
theorem rises9 {K : Nat} {x : List Int} (b : Int) (hl : x.length ≤ 9223372036854775807) (hK : x.length < K) : Jd K x b = some (Dw x b) := by
 rw [Jd, rises9_l0]
 exact refRises K x b hl hK
def posB (n : Int) (p : Q5) : Bool := !(Zh.same p.S ⟨0, 0, 0, 0⟩) && (!(decide (p.Lo < 1)) && (!(decide (p.Lo > p.Hi)) && (!(decide (p.Hi > 4096)) && (!(decide (p.Rule < 0)) && (!(decide (p.Rule ≥ 512)) && Dw p.Next n)))))
structure OkG (g : Qp) : Prop where
 p : g.P.length ≤ 9223372036854775807
 f : g.First.length ≤ 9223372036854775807
 s : ∀ p ∈ g.P, p.S = st (pr p.S)
 nx : ∀ p ∈ g.P, p.Next.length ≤ 9223372036854775807
structure GQ (g : Qp) : Prop where
 n : g.P.length ≤ 512
 first : Dw g.First g.P.length = true
 pos : ∀ p ∈ g.P, posB g.P.length p = true
def gNeed (g : Qp) : Nat := 100000 + g.First.length + g.P.length + supL (fun p => p.Next.length) g.P
theorem right9_l1 (K : Nat) (g : Qp) (h : OkG g) (hK : gNeed g ≤ K) : ∀ (q k i : Nat), g.P.length - i = q → q < k → X6 K k (i : Int) g = some ((g.P.drop i).all (posB g.P.length)) := by
 intro q
 induction q with
 | zero =>
  intro k i hq hk
  obtain ⟨k, rfl⟩ := Qjj k (by omega)
  rw [X6]
  dsimp only
  rw [Qfv (by omega), cF, Qf9 (by omega)]
  rfl
 | succ q ih =>
  intro k i hq hk
  obtain ⟨k, rfl⟩ := Qjj k (by omega)
  have hi : i < g.P.length := by omega
  have hp := h.p
  have hnx := h.nx _ (Qfy hi)
  have hsup := le_supL (fun p : Q5 => p.Next.length) (Qfy hi)
  rw [gNeed] at hK
  rw [X6]
  dsimp only
  rw [Qf0 (by omega), cT, Ze hi, bS, rises9 _ hnx (by omega), bS, Bx (n := i) (by omega), ih k (i + 1) (by omega) (by omega), Qf2 hi, List.all_cons, posB, Yj]
  cases Zh.same g.P[i].S ⟨0, 0, 0, 0⟩ <;> cases decide (g.P[i].Lo < 1) <;> cases decide (g.P[i].Lo > g.P[i].Hi) <;> cases decide (g.P[i].Hi > 4096) <;> cases decide (g.P[i].Rule < 0) <;> cases decide (g.P[i].Rule ≥ 512) <;> cases Dw g.P[i].Next g.P.length <;> rfl
theorem right9 {K : Nat} {g : Qp} (h : OkG g) (hK : gNeed g ≤ K) : (GQ g ∧ Uh K g = some true) ∨ (¬ GQ g ∧ Uh K g = some false) := by
 have hl := right9_l1 K g h hK g.P.length K 0 rfl (by rw [gNeed] at hK; omega)
 have hK' := hK
 rw [gNeed] at hK'
 rw [Qgb, Qgl] at hl
 rw [Uh, rises9 _ h.f (by omega), U4]
 by_cases h1 : g.P.length ≤ 512
 ·rw [Qfv (by omega), cF, bS]
  cases h2 : Dw g.First g.P.length with
  | false => exact .inr ⟨fun hq => (Bool.false_ne_true (h2.symm.trans hq.first)), rfl⟩
  | true =>
   rw [Qg7, cF, hl]
   cases h3 : g.P.all (posB g.P.length) with
   | true => exact .inl ⟨⟨h1, h2, Qgr.1 h3⟩, rfl⟩
   | false => exact .inr ⟨fun hq => Bool.false_ne_true (h3.symm.trans (Qgr.2 hq.pos)), rfl⟩
 ·rw [Qf0 (by omega), cT]
  exact .inr ⟨fun hq => h1 hq.n, rfl⟩
end Go.Rv
namespace Go.Rv
def Hd : List Q5 → Nat → List Int
 | [], _ => []
 | p :: t, n => if p.Hi > 1 then (n : Int) :: Hd t (n + 1) else -1 :: Hd t n
def cntA : List Q5 → List X2
 | [] => []
 | p :: t => if p.Hi > 1 then ⟨p.Lo, p.Hi⟩ :: cntA t else cntA t
theorem numL_len : ∀ (P : List Q5) (n : Nat), (Hd P n).length = P.length
 | [], _ => rfl
 | p :: t, n => by
  rw [Hd]
  split
  ·rw [Qgc, numL_len t, Qgc]
  ·rw [Qgc, numL_len t, Qgc]
theorem of_l0 (K : Nat) (hK : 100000 ≤ K) (g : Qp) (hn : g.P.length ≤ 512) (d1 : Zn) (d2 : List X2) (d3 : List Qa) (d4 : Zn) (d5 : List Qa) : ∀ (q k i : Nat) (N : List Int) (C : List X2) (Z : List Zh), g.P.length - i = q → q < k → i ≤ g.P.length → N.length ≤ i → C.length ≤ i → Z.length ≤ i →
  Vk K k (i : Int) g d1 d2 d3 d4 N C d5 Z = (Kq K (Z ++ (g.P.drop i).map (·.S))).bind fun v => Z6 K K 0 d1 d2 d3 g.First g.P v.Of v.Many 0 (N ++ Hd (g.P.drop i) C.length) (C ++ cntA (g.P.drop i)) [⟨[], [], [], []⟩] := by
 intro q
 induction q with
 | zero =>
  intro k i N C Z hq hk hi h1 h2 h3
  obtain ⟨k, rfl⟩ := Qjj k (by omega)
  rw [Vk]
  dsimp only
  rw [Qfv (by omega), cF, Qf9 (by omega), Hd, cntA, Qhu, Qgg, Qgg, Qgg]
 | succ q ih =>
  intro k i N C Z hq hk hi h1 h2 h3
  obtain ⟨k, rfl⟩ := Qjj k (by omega)
  have hil : i < g.P.length := by omega
  have r8 : ∀ x : Int, roomy 8 (N.length + [x].length) = true := fun x => Zl.2 ⟨by simp only [maxLen, Qft]; omega, by simp only [Qft]; omega⟩
  have r16 : ∀ x : X2, roomy 16 (C.length + [x].length) = true := fun x => Zl.2 ⟨by simp only [maxLen, Qft]; omega, by simp only [Qft]; omega⟩
  have r32 : ∀ x : Zh, roomy 32 (Z.length + [x].length) = true := fun x => Zl.2 ⟨by simp only [maxLen, Qft]; omega, by simp only [Qft]; omega⟩
  have e1 : ∀ {α : Type} (l : List α) (x : α), (l ++ [x]).length = l.length + 1 := fun l x => by rw [Qfu, Qft]
  rw [Vk]
  dsimp only
  rw [Qf0 (by omega), cT, Ze hil, bS, Z3 (r32 _), Bx (n := i) (by omega), Qf2 hil, Qge, Hd, cntA]
  by_cases h : g.P[i].Hi > 1
  ·rw [Qf0 h, cT, Z3 (r8 _), Z3 (r16 _), if_pos h, if_pos h, ih k (i + 1) _ _ _ (by omega) (by omega) (by omega) (by rw [e1]; omega) (by rw [e1]; omega) (by rw [e1]; omega), e1, Qfx, Qfx, Qfx]
   rfl
  ·rw [Qfv h, cF, Z3 (r8 _), if_neg h, if_neg h, ih k (i + 1) _ _ _ (by omega) (by omega) (by omega) (by rw [e1]; omega) (by omega) (by rw [e1]; omega), Qfx, Qfx]
   rfl
structure Fz (g : Qp) (a : Qn) (F : List Nat) : Prop where
 sp : SpI (g.P.map (·.S)) F a.Split.Of.f 256
 many : a.Split.Many = (F.length : Int)
 cs : a.Counts = cntA g.P
 si : SI g (Hd g.P 0) F a.States a.States.length
theorem GQ.gok {g : Qp} (h : GQ g) (ho : OkG g) : GOk g := by
 have hl : ∀ l : List Int, Dw l g.P.length = true → l.length ≤ 512 := fun l hr => by
  have := h.n
  rcases Oh l (-1) (by omega) hr with h | h
  ·omega
  ·rw [h]; exact Qf7 _
 refine ⟨h.n, ho.s, fun p hp => ?_, hl _ h.first⟩
 have := h.pos p hp
 simp only [posB, Qgv] at this
 exact hl _ this.2.2.2.2.2.2
theorem of_spec {K : Nat} {g : Qp} (h : GQ g) (ho : OkG g) (hK : gNeed g ≤ K) : ∃ a e, U8 K g = some (a, e) ∧ ((e ≠ 0 ∧ ∃ F, Bad g (Hd g.P 0) F) ∨ (e = 0 ∧ ∃ F, Fz g a F)) := by
 have hK' := hK
 rw [gNeed] at hK'
 have hg := h.gok ho
 have hgn := h.n
 have hr : Uh K g = some true := by
  rcases right9 ho hK with h1 | h1
  ·exact h1.2
  ·exact absurd h h1.1
 have h0 := of_l0 K (by omega) g h.n (Zn.mk fun _ => 0) [] [] (Zn.mk fun _ => 0) [] g.P.length K 0 [] [] [] rfl (by omega) (Qf7 _) (Qf6 _) (Qf6 _) (Qf6 _)
 rw [Qgb, Qgl, Qf8, Qf8, Qf8] at h0
 obtain ⟨F, sp, e1, e2, e3⟩ := sp_ok (K := K) (by omega) (l := g.P.map (·.S)) (fun s hs => by
  obtain ⟨p, hp, rfl⟩ := Qgf.1 hs
  exact ho.s p hp) (by rw [Qfw]; omega)
 have hb : BOk K g (Hd g.P 0) F sp := ⟨hg, numL_len _ _, first_ok (by omega) e2 e3, e3, e2.lt, e2.len⟩
 have hrun : U8 K g = Z6 K K 0 (Zn.mk fun _ => 0) [] [] g.First g.P sp.Of sp.Many 0 (Hd g.P 0) (cntA g.P) [⟨[], [], [], []⟩] := by
  rw [U8, hr, bS, Qg7, cF, h0, e1, bS]
  rfl
 have hst : ∀ i, stA [(⟨[], [], [], []⟩ : Qa)] i = if i = 0 then ⟨[], [], [], []⟩ else sE := fun i => by
  rcases i with _ | i
  ·rfl
  ·rfl
 have h1 := of_l1 K (by omega) hb (cntA g.P) (Zn.mk fun _ => 0) [] [] 256 K 0 [⟨[], [], [], []⟩] rfl (by omega) (Qf7 _) (by
  refine ⟨Qf6 _, by decide, fun i hi => ?_, fun i j h1 h2 h3 h4 => ?_, fun i hi => absurd hi (Qhj _), fun i h1 h2 => ?_⟩
  ·have hi0 : i = 0 := by simp only [Qft] at hi; omega
   subst hi0
   have hL : Lof [(⟨[], [], [], []⟩ : Qa)] 0 = [] := rfl
   refine ⟨rfl, by rw [hL]; exact List.Pairwise.nil, fun q hq => ?_, fun _ => hL, fun h => by omega, rfl, Qf7 _⟩
   rw [hL] at hq; cases hq
  ·simp only [Qft] at h3; omega
  ·simp only [Qft] at h2; omega)
 rw [Qgb] at h1
 rcases h1 with ⟨a, e, g1, g2⟩ | ⟨S', g1, g2⟩
 ·exact ⟨a, e, hrun.trans g2, .inl ⟨g1.1, F, g1.2⟩⟩
 ·exact ⟨_, 0, hrun.trans g2, .inr ⟨rfl, F, e2, e3, rfl, g1⟩⟩
theorem Qcd : ∀ (P : List Q5) (n q : Nat) (h : q < P.length), (P[q].Hi ≤ 1 ∧ (Hd P n).getD q 0 = -1) ∨ (1 < P[q].Hi ∧ ∃ j, (Hd P n).getD q 0 = ((n + j : Nat) : Int) ∧ j < (cntA P).length ∧ (cntA P).getD j ⟨0, 0⟩ = ⟨P[q].Lo, P[q].Hi⟩)
 | p :: t, n, 0, _ => by
  rw [Hd, cntA]
  by_cases h : p.Hi > 1
  ·rw [if_pos h, if_pos h]
   exact .inr ⟨h, 0, rfl, Nat.succ_pos _, rfl⟩
  ·rw [if_neg h]
   exact .inl ⟨by show p.Hi ≤ 1; omega, rfl⟩
 | p :: t, n, q + 1, h => by
  rw [Hd, cntA]
  have hq : q < t.length := by rw [Qgc] at h; omega
  by_cases hp : p.Hi > 1
  ·rw [if_pos hp, if_pos hp]
   rcases Qcd t (n + 1) q hq with h1 | ⟨h1, j, h2, h3, h4⟩
   ·exact .inl h1
   ·refine .inr ⟨h1, j + 1, ?_, by rw [Qgc]; omega, h4⟩
    show (Hd t (n + 1)).getD q 0 = _
    rw [h2]; congr 1; omega
  ·rw [if_neg hp, if_neg hp]
   exact Qcd t n q hq
theorem numL_ge : ∀ (P : List Q5) (n q : Nat), (Hd P n).getD q 0 = -1 ∨ (n : Int) ≤ (Hd P n).getD q 0 ∨ P.length ≤ q
 | [], _, _ => .inr (.inr (Qf7 _))
 | p :: t, n, 0 => by
  rw [Hd]
  by_cases h : p.Hi > 1
  ·rw [if_pos h]; exact .inr (.inl (Int.le_refl _))
  ·rw [if_neg h]; exact .inl rfl
 | p :: t, n, q + 1 => by
  rw [Hd, Qgc]
  by_cases h : p.Hi > 1
  ·rw [if_pos h]
   rcases numL_ge t (n + 1) q with h1 | h1 | h1
   ·exact .inl h1
   ·refine .inr (.inl ?_)
    show (n : Int) ≤ (Hd t (n + 1)).getD q 0
    omega
   ·exact .inr (.inr (by omega))
  ·rw [if_neg h]
   rcases numL_ge t n q with h1 | h1 | h1
   ·exact .inl h1
   ·exact .inr (.inl h1)
   ·exact .inr (.inr (by omega))
theorem Qcc : ∀ (P : List Q5) (n i j : Nat), i < j → j < P.length → 0 ≤ (Hd P n).getD i 0 → 0 ≤ (Hd P n).getD j 0 → (Hd P n).getD i 0 < (Hd P n).getD j 0
 | [], _, _, _, _, h, _, _ => absurd h (Qhj _)
 | p :: t, n, 0, j + 1, _, hj, hi, hj0 => by
  rw [Hd] at hi hj0 ⊢
  rw [Qgc] at hj
  by_cases h : p.Hi > 1
  ·rw [if_pos h] at hi hj0 ⊢
   have h2 : 0 ≤ (Hd t (n + 1)).getD j 0 := hj0
   show (n : Int) < (Hd t (n + 1)).getD j 0
   rcases numL_ge t (n + 1) j with h1 | h1 | h1 <;> omega
  ·rw [if_neg h] at hi
   have : (0 : Int) ≤ -1 := hi
   omega
 | p :: t, n, i + 1, j + 1, hij, hj, hi, hj0 => by
  rw [Hd] at hi hj0 ⊢
  rw [Qgc] at hj
  by_cases h : p.Hi > 1
  ·rw [if_pos h] at hi hj0 ⊢
   exact Qcc t (n + 1) i j (by omega) (by omega) hi hj0
  ·rw [if_neg h] at hi hj0 ⊢
   exact Qcc t n i j (by omega) (by omega) hi hj0
end Go.Rv
namespace Go.Rv
theorem Sx {below : Int} : ∀ (l : List Int) (last : Int), l.Pairwise (· < ·) → (∀ x ∈ l, last < x ∧ x < below) → I0 below last l = true
 | [], _, _, _ => rfl
 | n :: l, last, hp, h => by
  have h1 := h n Qga
  obtain ⟨p1, p2⟩ := Qjf.1 hp
  rw [I0, Qfv (by omega), Qfv (by omega), Qg2, Qgs, Qgs]
  exact Sx l n p2 fun x hx => ⟨p1 x hx, (h x (Qf5 _ hx)).2⟩
theorem regL_mem {num : List Int} {l : List Nat} {x : Int} : x ∈ Nf num l ↔ ∃ q, q ∈ l ∧ 0 ≤ num.getD q 0 ∧ num.getD q 0 = x := by
 simp only [Nf, Qgf, Qia, Qhc, and_assoc]
theorem regL_rise {P : List Q5} {l : List Nat} (hl : l.Pairwise (· < ·)) (hP : ∀ q ∈ l, q < P.length) : (Nf (Hd P 0) l).Pairwise (· < ·) := by
 rw [Nf, Qi5]
 refine (List.Pairwise.filter _ hl).imp_of_mem ?_
 intro i j hi hj hij
 have h1 := Qia.1 hi
 have h2 := Qia.1 hj
 exact Qcc P 0 i j hij (hP j h2.1) (of_decide_eq_true h1.2) (of_decide_eq_true h2.2)
theorem regL_lt {P : List Q5} {l : List Nat} (hP : ∀ q ∈ l, q < P.length) {x : Int} (hx : x ∈ Nf (Hd P 0) l) : 0 ≤ x ∧ x < ((cntA P).length : Int) := by
 obtain ⟨q, h1, h2, rfl⟩ := regL_mem.1 hx
 rcases Qcd P 0 q (hP q h1) with ⟨_, h3⟩ | ⟨_, j, h3, h4, _⟩
 ·omega
 ·omega
theorem rule_range {g : Qp} {num R : List Int} {c : Nat} : ∀ (L : List Nat) (r : Int), (∀ p ∈ L, 0 ≤ (plP g p).Rule ∧ (plP g p).Rule < 512) → -1 ≤ r ∧ r < 512 → -1 ≤ L.foldl (Iz g num R c) r ∧ L.foldl (Iz g num R c) r < 512
 | [], _, _, h => h
 | p :: L, r, hr, h => by
  rw [Qgx]
  have h1 := hr p Qga
  refine rule_range L _ (fun q hq => hr q (Qf5 _ hq)) ?_
  rw [Iz]
  split <;> omega
theorem cntA_mem {P : List Q5} {c : X2} (h : c ∈ cntA P) : ∃ p ∈ P, p.Hi > 1 ∧ c = ⟨p.Lo, p.Hi⟩ := by
 induction P with
 | nil => cases h
 | cons p t ih =>
  rw [cntA] at h
  have go : c ∈ cntA t → ∃ q ∈ p :: t, q.Hi > 1 ∧ c = ⟨q.Lo, q.Hi⟩ := fun h => by
   obtain ⟨q, h1, h2⟩ := ih h
   exact ⟨q, Qf5 _ h1, h2⟩
  split at h
  ·rcases Qg1.1 h with h | h
   ·exact ⟨p, Qga, ‹_›, h⟩
   ·exact go h
  ·exact go h
theorem cntA_len : ∀ (P : List Q5), (cntA P).length ≤ P.length
 | [] => Qf6 _
 | p :: t => by
  rw [cntA]
  have := cntA_len t
  split <;> simp only [Qgc] <;> omega
theorem opB_range {g : Qp} {num : List Int} {at0 : Bool} {L : List Nat} {R : List Int} {c q : Nat} : 1 ≤ opB g num at0 L R c q ∧ opB g num at0 L R c q ≤ 3 ∧ (opB g num at0 L R c q = 3 ∨ q ∈ L) := by
 rw [opB, Qd3]
 by_cases h : q ∈ L
 ·refine ⟨?_, ?_, .inr h⟩ <;> (repeat' split) <;> omega
 ·rw [Qfv h, Qik, Bool.and_false, if_neg (by decide), if_neg (by decide)]
  exact ⟨by omega, by omega, .inl rfl⟩
theorem posB_of {n : Int} {p : Q5} (h : posB n p = true) : 1 ≤ p.Lo ∧ p.Lo ≤ p.Hi ∧ p.Hi ≤ 4096 ∧ 0 ≤ p.Rule ∧ p.Rule < 512 ∧ Dw p.Next n = true := by
 simp only [posB, Qgv, Bool.not_eq_true', decide_eq_false_iff_not] at h
 obtain ⟨_, h1, h2, h3, h4, h5, h6⟩ := h
 exact ⟨by omega, by omega, by omega, by omega, by omega, h6⟩
theorem Fz.mv {g : Qp} {a : Qn} {F : List Nat} (h : Fz g a F) {i c k : Nat} {m : Qd} (hi : i < a.States.length) (hm : MvI g (Hd g.P 0) F a.States i c k m) : MvQ a.States (stA a.States i).R m := by
 rcases hm with ⟨_, rfl⟩ | ⟨_, h2, h3, h4, h5⟩
 ·exact .inl ⟨rfl, rfl⟩
 ·have hst := h.si.st i hi
  have hst' := h.si.st m.To.toNat (by omega)
  have hLof : Lof a.States m.To.toNat = goT g (Hd g.P 0) F a.States i c k := by rw [Lof, h4, Tj]
  have hR : (stA a.States m.To.toNat).R = Nf (Hd g.P 0) (goT g (Hd g.P 0) F a.States i c k) := by rw [hst'.r, hLof]
  refine .inr ⟨h2, h3, ?_, fun j hj => ?_⟩
  ·rw [h5, hR, opL, Nf, Qfw, Qfw]
  ·have hj2 : j < ((goT g (Hd g.P 0) F a.States i c k).filter fun q => decide (0 ≤ (Hd g.P 0).getD q 0)).length := by
    rw [h5, opL, Qfw] at hj
    exact hj
   have e1 : m.Ops[j] = opB g (Hd g.P 0) (i == 0) (Lof a.States i) (stA a.States i).R c ((goT g (Hd g.P 0) F a.States i c k).filter fun q => decide (0 ≤ (Hd g.P 0).getD q 0))[j] := by
    simp only [h5, opL, Qgt]
   have e2 : (stA a.States m.To.toNat).R.getD j 0 = (Hd g.P 0).getD ((goT g (Hd g.P 0) F a.States i c k).filter fun q => decide (0 ≤ (Hd g.P 0).getD q 0))[j] 0 := by
    rw [hR, Nf, Q2 (by rw [Qfw]; exact hj2), Qgt]
   have hq := Qia.1 (Qfy hj2)
   obtain ⟨o1, o2, o3⟩ := opB_range (g := g) (num := Hd g.P 0) (at0 := i == 0) (L := Lof a.States i) (R := (stA a.States i).R) (c := c) (q := ((goT g (Hd g.P 0) F a.States i c k).filter fun q => decide (0 ≤ (Hd g.P 0).getD q 0))[j])
   rw [e1, e2]
   refine ⟨o1, o2, o3.imp id fun o3 => ?_⟩
   rw [hst.r]
   exact regL_mem.2 ⟨_, o3, of_decide_eq_true hq.2, rfl⟩
theorem Fz.rq {g : Qp} {a : Qn} {F : List Nat} (h : Fz g a F) (hq : GQ g) : RQ a := by
 have hsi := h.si
 have hgn := hq.n
 have hz := hsi.st 0 hsi.n1
 have hL0 := hz.z rfl
 refine ⟨h.sp.right h.many, ?_, fun c hc => ?_, hsi.n1, hsi.n2, by rw [hz.l, hL0]; rfl, by rw [hz.r, hL0]; rfl, fun s hs => ?_⟩
 ·rw [h.cs]; have := cntA_len g.P; omega
 ·rw [h.cs] at hc
  obtain ⟨p, h1, h2, rfl⟩ := cntA_mem hc
  obtain ⟨p1, p2, p3, _⟩ := posB_of (hq.pos p h1)
  rw [cntP]
  dsimp only
  rw [Qfv (by omega), Qfv (by omega), Qfv (by omega), Qfv (by omega)]
  rfl
 ·obtain ⟨i, hi, rfl⟩ := Qgp hs
  rw [← Ua hi]
  have hst := hsi.st i hi
  have hc := hsi.done i hi
  obtain ⟨c1, c2, c3⟩ := cod_lt hst.r3
  have hrl : (stA a.States i).Rule.length = Qdd (stA a.States i).R.length := by rw [hc.rule, Qfw, Qgi]
  have hrow : ∀ r ∈ (stA a.States i).Next, ∃ c, c < Qdd (stA a.States i).R.length ∧ r = (stA a.States i).Next.getD c [] := fun r hr => by
   obtain ⟨c, hc', rfl⟩ := Qgp hr
   exact ⟨c, by rw [← hc.nl]; exact hc', (Q2 hc').symm⟩
  refine ⟨by omega, by rw [hrl]; exact c3, by rw [hc.nl]; exact c3, ?_, ?_, fun r hr => ?_, fun r hr => ?_, fun r hr m hm => ?_⟩
  ·rw [hst.l]
   refine Sx _ _ ?_ fun x hx => ?_
   ·rw [Zm, Qi5]; exact hst.rise.imp fun h => by omega
   ·obtain ⟨q, h1, rfl⟩ := Qgf.1 hx
    have := hst.lt q h1
    omega
  ·rw [hst.r, h.cs]
   refine Sx _ _ (regL_rise hst.rise hst.lt) fun x hx => ?_
   have := regL_lt hst.lt hx
   omega
  ·rw [hc.rule] at hr
   obtain ⟨c, _, rfl⟩ := Qgf.1 hr
   refine rule_range _ _ (fun p hp => ?_) ⟨by omega, by omega⟩
   have hpl := hst.lt p hp
   rw [Qcb hpl]
   obtain ⟨_, _, _, p4, p5, _⟩ := posB_of (hq.pos _ (Qfy hpl))
   exact ⟨p4, p5⟩
  ·obtain ⟨c, h1, rfl⟩ := hrow r hr
   rw [hc.rl c h1, h.many]
  ·obtain ⟨c, h1, rfl⟩ := hrow r hr
   obtain ⟨k, hk, rfl⟩ := Qgp hm
   have := hc.mv c h1 k (by rw [hc.rl c h1] at hk; exact hk)
   rw [Q2 hk] at this
   exact h.mv hi this
theorem Fz.good {g : Qp} {a : Qn} {F : List Nat} (h : Fz g a F) (hq : GQ g) : Th a := by
 refine ⟨h.rq hq, fun i hi => ?_⟩
 obtain ⟨k, h1, h2, _⟩ := h.sp.cls i hi
 have := h.sp.len
 omega
end Go.Rv

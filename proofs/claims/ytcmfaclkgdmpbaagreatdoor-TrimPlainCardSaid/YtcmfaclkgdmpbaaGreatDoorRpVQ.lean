/- A word, twice, as places, plainly. -/
import Derived.Test.YtcmfaclkgdmpbaaGreatDoorRpVO
namespace Go.Rv
def idx (n q : Nat) : Nat := if q < n then q else q - n
def posQ (xs : List Nat) (q : Nat) : Q5 := ⟨st fun c => c == xs.getD (idx xs.length q) 0, 1, 1, 0, decide (idx xs.length q + 1 = xs.length), if idx xs.length q + 1 = xs.length then [] else [((q + 1 : Nat) : Int)]⟩
def Ym (xs : List Nat) : Qp := ⟨[0, (xs.length : Int)], (List.range (2 * xs.length)).map (posQ xs)⟩
theorem one_set {b : Nat} (hb : b < 256) : Zh.set ⟨0, 0, 0, 0⟩ ((b / 64 : Nat) : Int) ((2 ^ (b % 64) : Nat) : Int) = st fun c => c == b := by
 have h := st_set (fun _ => false) b hb
 have e : wdi (fun c => false || c == b) (b / 64) = 2 ^ (b % 64) := by
  refine (eq_wdi (pow_lt _ (Qh6 _ (by decide))) fun j hj => ?_).symm
  rw [Nat.testBit_two_pow, Qh1, Qh8]
  simp only [Qhc, Qhe]
  omega
 rw [e, ← st_none] at h
 rw [h]
 exact Tl fun c _ => Qh1 _
theorem pr_st (p : Nat → Bool) {b : Nat} (hb : b < 256) : pr (st p) b = p b := by
 rw [pr, st_get p (by omega), Qf1, Qc2 p _ _ (Qh6 _ (by decide)), Qip]
theorem Ce (xs : List Nat) : (Ym xs).P.length = 2 * xs.length := by
 show ((List.range (2 * xs.length)).map (posQ xs)).length = _
 rw [Qfw, Qgi]
theorem I6 {xs : List Nat} {q : Nat} (h : q < 2 * xs.length) : plP (Ym xs) q = posQ xs q := by
 rw [Qcb (by rw [Ce]; exact h)]
 simp only [Ym, Qgt, Qig]
theorem plain_l1 (K : Nat) (go : Bool → (List Int) → Int → (List Int) → (List Q5) → Option Bool) (xs : List Nat) (hx : ∀ b ∈ xs, b < 256) (hn : xs.length ≤ 20) (t : Nat) (ht : t < 2) (F : List Int) : ∀ (q k i : Nat) (P : List Q5), xs.length - i = q → q < k → i ≤ xs.length → P.length = t * xs.length + i → Zt K go k true (Zm xs) (t : Int) (t : Int) (xs.length : Int) (i : Int) F P = go true (Zm xs) ((t + 1 : Nat) : Int) F (P ++ (List.range' (t * xs.length + i) q).map (posQ xs)) := by
 have htn : t * xs.length ≤ 20 ∧ (t * xs.length = 0 ∨ t * xs.length = xs.length) := by
  have : t = 0 ∨ t = 1 := by omega
  rcases this with rfl | rfl
  ·rw [Qji]; omega
  ·rw [Nat.one_mul]; omega
 have hcl := Oy xs
 intro q
 induction q with
 | zero =>
  intro k i P hq hk hi hP
  obtain ⟨k, rfl⟩ := Qjj k (by omega)
  rw [Zt]
  dsimp only
  rw [Qfv (by omega), cF, Bx (n := t) (by omega), List.range'_zero, Qhu, Qgg]
 | succ q ih =>
  intro k i P hq hk hi hP
  obtain ⟨k, rfl⟩ := Qjj k (by omega)
  have hil : i < xs.length := by omega
  have hb := hx _ (Qfy hil)
  have hidx : idx xs.length (t * xs.length + i) = i := by rw [idx]; split <;> omega
  have hgd : xs.getD i 0 = xs[i] := Q2 hil
  have hih := ih k (i + 1) (P ++ [posQ xs (t * xs.length + i)]) (by omega) (by omega) (by omega) (by rw [Qfu, Qft]; omega)
  rw [Qfx, Qgw] at hih
  have hj2 : ∀ (l : Bool) (nx : List Int), l = decide (i + 1 = xs.length) → nx = (if i + 1 = xs.length then [] else [((t * xs.length + i + 1 : Nat) : Int)]) → Xo K (Zt K go k) true (Zm xs) (t : Int) (t : Int) (xs.length : Int) (i : Int) F P (Zh.set (Zh.mk 0 0 0 0) ((xs[i] / 64 : Nat) : Int) ((2 ^ (xs[i] % 64) : Nat) : Int)) l nx = go true (Zm xs) ((t + 1 : Nat) : Int) F (P ++ (List.range' (t * xs.length + i) (q + 1)).map (posQ xs)) := fun l nx hl hnx => by
   have hpos : (⟨Zh.set (Zh.mk 0 0 0 0) ((xs[i] / 64 : Nat) : Int) ((2 ^ (xs[i] % 64) : Nat) : Int), 1, 1, 0, l, nx⟩ : Q5) = posQ xs (t * xs.length + i) := by
    rw [posQ, hidx, hgd, hl, hnx, one_set hb]
   rw [Xo, hpos, Z3 (Zl.2 ⟨by simp only [maxLen, Qft]; omega, by simp only [Qft]; omega⟩), Bx (n := i) (by omega), hih, List.range'_succ, Qge, Qh5]
  have h1 : Xl (Zm xs) (i : Int) = some ((xs[i] : Nat) : Int) := by rw [M3 hil, hgd]
  have e1 : IntKind.i64.wrap ((xs.length : Int) - 1) = ((xs.length - 1 : Nat) : Int) := by rw [w64 (by omega) (by omega)]; omega
  have e2 : IntKind.i64.wrap ((IntKind.i64.wrap ((IntKind.i64.wrap ((t : Int) * (xs.length : Int))) + (i : Int))) + 1) = ((t * xs.length + i + 1 : Nat) : Int) := by
   have : (t : Int) * (xs.length : Int) = ((t * xs.length : Nat) : Int) := by rw [Int.natCast_mul]
   rw [this, w64 (n := ((t * xs.length : Nat) : Int)) (by omega) (by omega), w64 (n := ((t * xs.length : Nat) : Int) + (i : Int)) (by omega) (by omega), w64 (by omega) (by omega)]
   omega
  rw [Zt]
  dsimp only
  rw [Qf0 (by omega), cT, h1, bS, hcl, e1, mod64, div64 _ hb, Z3 (by omega), Z3 ⟨by omega, by omega⟩, pow64 _ (Qh6 _ (by decide))]
  by_cases e : i + 1 = xs.length
  ·rw [Qhe.2 (show (i : Int) = ((xs.length - 1 : Nat) : Int) by omega), Qg7, cF]
   exact hj2 _ _ (Qf0 e).symm (if_pos e).symm
  ·rw [Qgd.2 (show (i : Int) ≠ ((xs.length - 1 : Nat) : Int) by omega), Qg2, cT, e2]
   exact hj2 _ _ (Qfv e).symm (if_neg e).symm
theorem plain_l0 (K : Nat) (hK : 1000 ≤ K) (xs : List Nat) (hx : ∀ b ∈ xs, b < 256) (hn : xs.length ≤ 20) : Zu K K true (Zm xs) 0 [0, (xs.length : Int)] [] = (U8 K (Ym xs)).bind fun v => (Qao K v.1).bind fun u => bif v.2 == (0 : Int) then bif u.2 == (0 : Int) then some ((u.1.States.length : Int) == IntKind.i64.wrap ((xs.length : Int) + 1)) else some false else some false := by
 obtain ⟨k, rfl⟩ : ∃ k, K = k + 3 := ⟨K - 3, by omega⟩
 have hcl := Oy xs
 have h0 := plain_l1 (k + 3) (Zu (k + 3) (k + 2)) xs hx hn 0 (by omega) [0, (xs.length : Int)] xs.length (k + 3) 0 [] rfl (by omega) (Qf7 _) (by simp)
 rw [Qji, Qgq, Qgb, Qf8] at h0
 have hl : ((List.range' 0 xs.length).map (posQ xs)).length = xs.length := by rw [Qfw, List.length_range']
 have h1 := plain_l1 (k + 3) (Zu (k + 3) (k + 1)) xs hx hn 1 (by omega) [0, (xs.length : Int)] xs.length (k + 3) 0 ((List.range' 0 xs.length).map (posQ xs)) rfl (by omega) (Qf7 _) (by rw [hl]; omega)
 rw [Nat.one_mul, Qgb, ← Qg5] at h1
 simp only [Qht] at h0 h1
 have happ : List.range' 0 xs.length ++ List.range' xs.length xs.length = List.range (2 * xs.length) := by
  have := List.range'_append_1 (s := 0) (m := xs.length) (n := xs.length)
  rw [Qgq] at this
  rw [this, List.range_eq_range']
  congr 1
  omega
 rw [happ] at h1
 rw [Zu]
 dsimp only
 rw [Qf0 (by omega), cT, hcl, h0, Zu]
 dsimp only
 rw [Qf0 (by omega), cT, hcl]
 refine h1.trans ?_
 rw [Zu]
 dsimp only
 rw [Qfv (by omega), cF, hcl]
 rfl
theorem word_ok {xs : List Nat} (hx : ∀ b ∈ xs, b < 256) (hn : xs.length ≤ 20) (h1 : 1 ≤ xs.length) : OkG (Ym xs) ∧ GQ (Ym xs) ∧ gNeed (Ym xs) ≤ 200000 := by
 have hl := Ce xs
 have hmem : ∀ p ∈ (Ym xs).P, ∃ q, q < 2 * xs.length ∧ p = posQ xs q := fun p hp => by
  obtain ⟨q, h1, rfl⟩ := Qgf.1 hp
  exact ⟨q, Qgo.1 h1, rfl⟩
 have hnx : ∀ q, (posQ xs q).Next.length ≤ 1 := fun q => by
  rw [posQ]; dsimp only; split <;> simp
 have hF : (Ym xs).First.length = 2 := rfl
 have hsup : supL (fun p : Q5 => p.Next.length) (Ym xs).P ≤ 1 := by
  have : ∀ l : List Q5, (∀ p ∈ l, p.Next.length ≤ 1) → supL (fun p : Q5 => p.Next.length) l ≤ 1 := by
   intro l
   induction l with
   | nil => intro _; exact Qf7 _
   | cons p t ih =>
    intro h
    have h1 := h p Qga
    have h2 := ih fun x hx => h x (Qf5 _ hx)
    rw [supL] at h2 ⊢
    rw [List.foldr_cons]
    omega
  exact this _ fun p hp => by obtain ⟨q, _, rfl⟩ := hmem p hp; exact hnx q
 refine ⟨⟨by omega, by omega, fun p hp => ?_, fun p hp => ?_⟩, ⟨by omega, ?_, fun p hp => ?_⟩, by rw [gNeed]; omega⟩
 ·obtain ⟨q, _, rfl⟩ := hmem p hp
  exact Tl fun b hb => (pr_st (fun c => c == xs.getD (idx xs.length q) 0) hb).symm
 ·obtain ⟨q, _, rfl⟩ := hmem p hp
  have := hnx q; omega
 ·rw [hl]
  refine Sx _ _ ?_ fun x hx => ?_
  ·refine Qjf.2 ⟨fun x hx => ?_, Qh4 _ _⟩
   rw [Qf3.1 hx]; omega
  ·rcases Qg1.1 hx with rfl | hx
   ·omega
   ·rw [Qf3.1 hx]; omega
 ·obtain ⟨q, hq, rfl⟩ := hmem p hp
  have hi : idx xs.length q < xs.length := by rw [idx]; split <;> omega
  have hb : xs.getD (idx xs.length q) 0 < 256 := by rw [Q2 hi]; exact hx _ (Qfy hi)
  have hs : Zh.same (posQ xs q).S ⟨0, 0, 0, 0⟩ = false := by
   refine Bool.eq_false_iff.2 fun h => ?_
   rw [st_none] at h
   have := (same_st _ _).1 h _ hb
   rw [Qg3] at this
   cases this
  have hr : Dw (posQ xs q).Next ((Ym xs).P.length : Int) = true := by
   rw [posQ, hl]
   dsimp only
   split
   ·rfl
   ·rename_i hne
    refine Sx _ _ (Qh4 _ _) fun x hx => ?_
    rw [Qf3.1 hx]
    rw [idx] at hne
    split at hne <;> omega
  rw [posB, hs, hr]
  rfl
end Go.Rv
namespace Go.Rv
def XP (n t : Nat) : List Nat := (List.range (2 * n)).filter fun q => q == t || q == n + t
theorem XP_mem {n t q : Nat} : q ∈ XP n t ↔ q < 2 * n ∧ (q = t ∨ q = n + t) := by
 rw [XP, Qia, Qgo, Qio, Qhe, Qhe]
theorem next_iff {xs : List Nat} {p q : Nat} (hp : p < 2 * xs.length) : (plP (Ym xs) p).Next.contains (q : Int) = true ↔ idx xs.length p + 1 ≠ xs.length ∧ q = p + 1 := by
 rw [I6 hp, posQ]
 dsimp only
 by_cases h : idx xs.length p + 1 = xs.length
 ·rw [if_pos h]
  exact ⟨fun h => (nomatch h), fun h' => absurd h h'.1⟩
 ·rw [if_neg h, Qih, Qf3]
  exact ⟨fun h' => ⟨h, by omega⟩, fun h' => by omega⟩
theorem next_any {xs : List Nat} {t : Nat} (ht : t < xs.length) (q : Nat) : (∃ p ∈ XP xs.length t, (plP (Ym xs) p).Next.contains (q : Int) = true) ↔ t + 1 < xs.length ∧ (q = t + 1 ∨ q = xs.length + (t + 1)) := by
 constructor
 ·rintro ⟨p, hp, h⟩
  obtain ⟨h1, h2⟩ := XP_mem.1 hp
  obtain ⟨h3, h4⟩ := (next_iff h1).1 h
  rw [idx] at h3
  split at h3 <;> omega
 ·rintro ⟨h1, h2 | h2⟩
  ·refine ⟨t, XP_mem.2 ⟨by omega, .inl rfl⟩, (next_iff (by omega)).2 ⟨?_, h2⟩⟩
   rw [idx]; split <;> omega
  ·refine ⟨xs.length + t, XP_mem.2 ⟨by omega, .inr rfl⟩, (next_iff (by omega)).2 ⟨?_, by omega⟩⟩
   rw [idx]; split <;> omega
theorem has_idx {xs : List Nat} {q t : Nat} (hq : q < 2 * xs.length) (ht : t < xs.length) (h : q = t ∨ q = xs.length + t) (y : Nat) : Qcj (Ym xs) q y = Qcj (Ym xs) t y := by
 have e : idx xs.length q = idx xs.length t := by
  rw [idx, idx]; (repeat' split) <;> omega
 rw [Qcj, Qcj, I6 hq, I6 (by omega), posQ, posQ, e]
theorem has_at {xs : List Nat} {t : Nat} (ht : t < xs.length) {b : Nat} (hb : b < 256) : Qcj (Ym xs) t b = (b == xs.getD t 0) := by
 rw [Qcj, I6 (by omega), posQ]
 dsimp only
 rw [pr_st _ hb, idx, if_pos ht]
theorem filt {xs : List Nat} {t : Nat} (ht : t < xs.length) (y : Nat) {E : Nat → Bool} (hE : ∀ q, q < 2 * xs.length → (E q = true ↔ (q = t ∨ q = xs.length + t))) : ((List.range (2 * xs.length)).filter fun q => Qcj (Ym xs) q y && E q) = if Qcj (Ym xs) t y = true then XP xs.length t else [] := by
 by_cases h : Qcj (Ym xs) t y = true
 ·rw [if_pos h, XP]
  refine List.filter_congr fun q hq => ?_
  have hql := Qgo.1 hq
  rw [Qh8, Qgv, hE q hql, Qio, Qhe, Qhe]
  exact ⟨fun h' => h'.2, fun h' => ⟨by rw [has_idx hql ht h']; exact h, h'⟩⟩
 ·rw [if_neg h, Qhx]
  intro q hq h'
  have hql := Qgo.1 hq
  rw [Qgv, hE q hql] at h'
  rw [has_idx hql ht h'.2] at h'
  exact h h'.1
theorem filt_no {xs : List Nat} (y : Nat) {E : Nat → Bool} (hE : ∀ q, q < 2 * xs.length → E q = false) : ((List.range (2 * xs.length)).filter fun q => Qcj (Ym xs) q y && E q) = [] := by
 rw [Qhx]
 intro q hq h'
 rw [hE q (Qgo.1 hq), Bool.and_false] at h'
 cases h'
theorem word_num {xs : List Nat} {q : Nat} (hq : q < 2 * xs.length) : (Hd (Ym xs).P 0).getD q 0 = -1 := by
 have hl := Ce xs
 rcases Qcd (Ym xs).P 0 q (by omega) with h | h
 ·exact h.2
 ·have e := Qcb (g := Ym xs) (q := q) (by omega)
  rw [← e, I6 hq] at h
  exact absurd h.1 (by show ¬ (1 : Int) < 1; omega)
theorem word_reg {xs : List Nat} {l : List Nat} (hl : ∀ q ∈ l, q < 2 * xs.length) : Nf (Hd (Ym xs).P 0) l = [] := by
 rw [Nf, Qh0, Qhx]
 intro q hq h
 have := of_decide_eq_true h
 rw [word_num (hl q hq)] at this
 omega
theorem first_iff {xs : List Nat} {q : Nat} : (Ym xs).First.contains (q : Int) = true ↔ (q = 0 ∨ q = xs.length + 0) := by
 show ([0, (xs.length : Int)] : List Int).contains (q : Int) = true ↔ _
 rw [Qih, Qg1, Qf3]
 omega
theorem word_st {xs : List Nat} (h1 : 1 ≤ xs.length) {F : List Nat} {S : List Qa} {m : Nat} (h : SI (Ym xs) (Hd (Ym xs).P 0) F S m) : ∀ i, 1 ≤ i → i < S.length → ∃ t, t < xs.length ∧ Lof S i = XP xs.length t := by
 have hl := Ce xs
 have key : ∀ j c k, j < S.length → (1 ≤ j → ∃ t, t < xs.length ∧ Lof S j = XP xs.length t) → goT (Ym xs) (Hd (Ym xs).P 0) F S j c k ≠ [] → ∃ t, t < xs.length ∧ goT (Ym xs) (Hd (Ym xs).P 0) F S j c k = XP xs.length t := by
  intro j c k hj hi hne
  have hst := h.st j hj
  have hR : (stA S j).R = [] := by rw [hst.r]; exact word_reg fun q hq => by have := hst.lt q hq; omega
  have hgo : goT (Ym xs) (Hd (Ym xs).P 0) F S j c k = (List.range (2 * xs.length)).filter fun q => Qcj (Ym xs) q (F.getD k 0) && entF (Ym xs) (Hd (Ym xs).P 0) (j == 0) (Lof S j) [] c q := by
   rw [goT, goL, hR, hl]
   refine List.filter_congr fun q _ => ?_
   have : Qd3 (Hd (Ym xs).P 0) (Lof S j) [] c q = false := by
    rw [Qd3, digF]
    cases decide (q ∈ Lof S j) <;> rfl
   rw [goesB, this, Bool.or_false]
  rw [hgo] at hne ⊢
  have fin : ∀ t, t < xs.length → (∀ q, q < 2 * xs.length → (entF (Ym xs) (Hd (Ym xs).P 0) (j == 0) (Lof S j) [] c q = true ↔ (q = t ∨ q = xs.length + t))) → ∃ t, t < xs.length ∧ ((List.range (2 * xs.length)).filter fun q => Qcj (Ym xs) q (F.getD k 0) && entF (Ym xs) (Hd (Ym xs).P 0) (j == 0) (Lof S j) [] c q) = XP xs.length t := fun t ht hE => by
   have e := filt ht (F.getD k 0) hE
   refine ⟨t, ht, ?_⟩
   rw [e] at hne ⊢
   by_cases hx : Qcj (Ym xs) t (F.getD k 0) = true
   ·rw [if_pos hx]
   ·rw [if_neg hx] at hne; exact absurd rfl hne
  by_cases hj0 : j = 0
  ·refine fin 0 (by omega) fun q _ => ?_
   rw [entF, hj0, if_pos (by decide)]
   exact first_iff
  ·obtain ⟨t, ht, hL⟩ := hi (by omega)
   have hent : ∀ q, entF (Ym xs) (Hd (Ym xs).P 0) (j == 0) (Lof S j) [] c q = true ↔ t + 1 < xs.length ∧ (q = t + 1 ∨ q = xs.length + (t + 1)) := fun q => by
    rw [entF, Qgd.2 hj0, if_neg (by decide), Qhk, ← next_any ht, hL]
    constructor
    ·rintro ⟨p, h1, h2⟩
     exact ⟨p, h1, (Bool.and_eq_true_iff.1 h2).2⟩
    ·rintro ⟨p, h1, h2⟩
     exact ⟨p, h1, by rw [h2, ripeF, digF]; rfl⟩
   by_cases ht1 : t + 1 < xs.length
   ·exact fin (t + 1) ht1 fun q _ => (hent q).trans ⟨fun h => h.2, fun h => ⟨ht1, h⟩⟩
   ·refine absurd (filt_no _ fun q _ => ?_) hne
    cases hx : entF (Ym xs) (Hd (Ym xs).P 0) (j == 0) (Lof S j) [] c q with
    | false => rfl
    | true => exact absurd ((hent q).1 hx).1 ht1
 intro i
 induction i using Nat.strongRecOn with
 | _ i ih =>
  intro hi1 hi
  obtain ⟨j, c, k, h2, h3, h4, h5⟩ := h.why i hi1 hi
  have hLof : Lof S i = goT (Ym xs) (Hd (Ym xs).P 0) F S j c k := by rw [Lof, h5, Tj]
  have hnz := (h.st i hi).nz hi1
  rw [hLof] at hnz ⊢
  exact key j c k (by omega) (fun h6 => ih j h2 h6 (by omega)) hnz
theorem word_many {xs : List Nat} (h1 : 1 ≤ xs.length) {F : List Nat} {S : List Qa} {m : Nat} (h : SI (Ym xs) (Hd (Ym xs).P 0) F S m) : S.length ≤ xs.length + 1 := by
 have hs := word_st h1 h
 have hn := h.n1
 have := C4 ((List.range' 1 (S.length - 1)).map (Lof S)) ((List.range xs.length).map (XP xs.length)) (by
  rw [List.Nodup, Qi5]
  refine (List.pairwise_lt_range' (s := 1) (n := S.length - 1)).imp_of_mem ?_
  intro i j hi hj hij e
  obtain ⟨i1, i2⟩ := List.mem_range'_1.1 hi
  obtain ⟨j1, j2⟩ := List.mem_range'_1.1 hj
  have := h.dist i j i1 j1 (by omega) (by omega) (by rw [(h.st i (by omega)).l, (h.st j (by omega)).l, e])
  omega) fun x hx => by
   obtain ⟨i, hi, rfl⟩ := Qgf.1 hx
   obtain ⟨i1, i2⟩ := List.mem_range'_1.1 hi
   obtain ⟨t, ht, e⟩ := hs i i1 (by omega)
   rw [e]
   exact Qg4 (Qgo.2 ht)
 rw [Qfw, Qfw, List.length_range', Qgi] at this
 omega
theorem word_good {xs : List Nat} (h1 : 1 ≤ xs.length) (hn : xs.length ≤ 20) {F : List Nat} (h : Bad (Ym xs) (Hd (Ym xs).P 0) F) : False := by
 obtain ⟨S, n, j, c, k, h2, h3, h4⟩ := h
 have := word_many h1 h2
 rcases h4 with h4 | h4
 ·omega
 ·rw [word_reg (fun q hq => by have := (goT_rise (g := Ym xs)).2 q hq; have := Ce xs; omega)] at h4
  exact absurd h4 (Qhj _)
end Go.Rv

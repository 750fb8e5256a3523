/- Print, plainly: a byte, and a set, as they stand in a pattern, are read as what they are; the law PrintSets. -/
/- Print, plainly: how often, as it stands in a pattern. -/
/- Print, plainly: a tree as it stands in a pattern, by the program. -/
/- Print, plainly: a tree's nodes, printed one after another by the program; Tree. -/
/- Print, plainly: how often, as it stands in a pattern, is read as that; the law PrintTimes. -/
/- Print, plainly: a tree's pattern is read as that tree. (Begun.) -/
/- Print, plainly: what is read has sets of bytes, and its parentheses nest no deeper than it was read; parentheses are counted. -/
/- Print, plainly: the laws PrintBack and PrintOnce. -/
import Derived.Test.YtocjhbbldeankaaDoorRpXC
import Derived.Test.YtocjhbbldeankaaDoorRpSS
namespace Go.Rv
theorem hex_all : ∀ d : _root_.Fin 16, hexN (hxN d.val) = some d.val := by decide
theorem spec_all : ∀ c : _root_.Fin 256, (specN c.val || c.val == 45) = true → c.val ≠ 110 ∧ c.val ≠ 116 ∧ c.val ≠ 114 ∧ c.val ≠ 120 ∧ (c.val = 45 ∨ specN c.val = true) := by decide +kernel
theorem pOne_pb {c : Nat} (h : c < 256) (r : List Nat) : pOne (pbL c ++ r) = .ok c r := by
 unfold pbL
 split
 ·next hs =>
  obtain ⟨h1, h2, h3, h4, h5⟩ := spec_all ⟨c, h⟩ hs
  simp only at h1 h2 h3 h4 h5
  show pOne (92 :: c :: r) = _
  rw [pOne, if_pos rfl, pEsc, if_neg h1, if_neg h2, if_neg h3, if_neg h4, if_pos h5]
 ·next hs =>
  split
  ·next h => subst h; rfl
  ·split
   ·next h => subst h; rfl
   ·split
    ·next h => subst h; rfl
    ·split
     ·show pOne (92 :: 120 :: hxN (c / 16) :: hxN (c % 16) :: r) = _
      have e1 := hex_all ⟨c / 16, by omega⟩
      have e2 := hex_all ⟨c % 16, by omega⟩
      simp only at e1 e2
      rw [pOne, if_pos rfl, pEsc, if_neg (by decide), if_neg (by decide), if_neg (by decide), if_pos rfl, pPair]
      simp only [e1, e2]
      rw [show 16 * (c / 16) + c % 16 = c by omega]
     ·show pOne (c :: r) = _
      rw [pOne, if_neg (by rintro rfl; exact hs (by decide))]
theorem pb_head (c : Nat) : ∃ x t, pbL c = x :: t ∧ (x = 92 ∨ x = c ∧ specN c = false ∧ c ≠ 45) := by
 unfold pbL
 split
 ·exact ⟨_, _, rfl, .inl rfl⟩
 ·next hs =>
  split
  ·exact ⟨_, _, rfl, .inl rfl⟩
  ·split
   ·exact ⟨_, _, rfl, .inl rfl⟩
   ·split
    ·exact ⟨_, _, rfl, .inl rfl⟩
    ·split
     ·exact ⟨_, _, rfl, .inl rfl⟩
     ·simp only [Bool.or_eq_true, beq_iff_eq, not_or, Bool.not_eq_true] at hs
      exact ⟨_, _, rfl, .inr ⟨rfl, hs.1, hs.2⟩⟩
theorem pb_free {c x : Nat} {t : List Nat} (h : pbL c = x :: t) : x ≠ 46 ∧ x ≠ 123 ∧ x ≠ 47 ∧ x ≠ 36 ∧ x ≠ 40 ∧ x ≠ 91 ∧ x ≠ 93 ∧ x ≠ 45 ∧ x ≠ 94 ∧ x ≠ 124 ∧ x ≠ 41 ∧ x ≠ 42 ∧ x ≠ 43 ∧ x ≠ 63 ∧ (x = 92 ∨ specN x = false) ∧ markN x = false := by
 obtain ⟨y, u, h1, h2⟩ := pb_head c
 rw [h] at h1
 obtain ⟨rfl, rfl⟩ := List.cons.inj h1
 rcases h2 with rfl | ⟨rfl, hs, h45⟩
 ·decide
 ·have ne : ∀ y : Nat, specN y = true → x ≠ y := fun y hy he => by rw [he, hy] at hs; cases hs
  refine ⟨ne _ rfl, ne _ rfl, ne _ rfl, ne _ rfl, ne _ rfl, ne _ rfl, ne _ rfl, h45, ne _ rfl, ne _ rfl, ne _ rfl, ne _ rfl, ne _ rfl, ne _ rfl, .inr hs, ?_⟩
  have h93 := ne 93 rfl
  have h94 := ne 94 rfl
  simp [markN, h93, h94, h45]
theorem pLeaf_pb {c : Nat} (h : c < 256) (r : List Nat) : pLeaf (pbL c ++ r) = .ok (.set (st fun x => x == c)) r := by
 have h1 := pOne_pb h r
 obtain ⟨x, t, hx, _⟩ := pb_head c
 obtain ⟨n1, n2, n3, n4, _, _, _, _, _, _, _, _, _, _, n5, _⟩ := pb_free hx
 rw [hx, List.cons_append] at h1 ⊢
 rw [pLeaf, if_neg n1, if_neg (fun hh => n2 hh.1), if_neg (by rintro (h | h); exact n3 h; exact n4 h), if_neg (by
  rintro ⟨a, b⟩
  rcases n5 with h | h
  ·exact a h
  ·rw [h] at b; cases b), h1]
theorem atom_pb {c : Nat} (h : c < 256) (n : Nat) (r : List Nat) : PR (.atom n) (pbL c ++ r) (.ok (.set (st fun x => x == c)) r) := by
 obtain ⟨x, t, hx, _⟩ := pb_head c
 obtain ⟨_, _, _, _, n1, n2, _⟩ := pb_free hx
 have := PR.atomL (n := n) (l := pbL c ++ r) (by rw [hx]; simpa using n1) (by rw [hx]; simpa using n2)
 rwa [pLeaf_pb h r] at this
theorem pMember_pb {c : Nat} (h : c < 256) (r : List Nat) : pMember (pbL c ++ r) = .ok c r := by
 have h1 := pOne_pb h r
 obtain ⟨x, t, hx, _⟩ := pb_head c
 obtain ⟨_, _, _, _, _, _, _, _, _, _, _, _, _, _, _, n1⟩ := pb_free hx
 rw [hx, List.cons_append] at h1 ⊢
 rw [pMember, if_neg (by rw [n1]; decide), h1]
theorem pSpan_1 {c : Nat} (h : c < 256) {r : List Nat} (hr : r.head? ≠ some 45) : pSpan (pbL c ++ r) = .ok (c, c) r := by
 rw [pSpan, pMember_pb h]
 match r, hr with
 | [], _ => rfl
 | 45 :: r, hr => exact absurd rfl hr
 | x :: r, hr =>
  have : x ≠ 45 := fun h => hr (by rw [h]; rfl)
  split
  ·next h => simp at h
  ·next h => simp only [Re.ok.injEq, List.cons.injEq] at h; exact absurd h.2.1 this
  ·next h => simp only [Re.ok.injEq] at h; rw [← h.1, ← h.2]
theorem pSpan_2 {lo hi : Nat} (h1 : lo < 256) (h2 : hi < 256) (hl : lo ≤ hi) (r : List Nat) : pSpan (pbL lo ++ 45 :: (pbL hi ++ r)) = .ok (lo, hi) r := by
 rw [pSpan, pMember_pb h1]
 simp only
 rw [pMember_pb h2]
 simp only
 rw [if_neg (by omega)]
theorem spL_head (xs : List (Nat × Nat)) (r : List Nat) : (spL xs ++ 93 :: r).head? ≠ some 45 ∧ (spL xs ++ 93 :: r).head? ≠ some 94 ∧ (xs ≠ [] → (spL xs ++ 93 :: r).head? ≠ some 93) := by
 cases xs with
 | nil => simp [spL]
 | cons x xs =>
  obtain ⟨y, t, hx, _⟩ := pb_head x.1
  obtain ⟨_, _, _, _, _, _, n1, n2, n3, _⟩ := pb_free hx
  rw [spL, hx]
  simp [n1, n2, n3]
theorem spans_pr (r : List Nat) : ∀ (xs : List (Nat × Nat)) (first : Bool) (q : Nat → Bool), (∀ x ∈ xs, x.1 ≤ x.2 ∧ x.2 < 256) → (first = true → xs ≠ []) →
  PR (.spans first q) (spL xs ++ 93 :: r) (.ok (.set (st fun c => q c || xs.any fun x => decide (x.1 ≤ c) && decide (c ≤ x.2))) (93 :: r)) := by
 intro xs
 induction xs with
 | nil =>
  intro first q _ hf
  have : first = false := by cases first; rfl; exact absurd rfl (hf rfl)
  subst this
  have := PR.spans0 (p := q) (l := spL [] ++ 93 :: r) rfl
  have e : (fun c => q c || ([] : List (Nat × Nat)).any fun x => decide (x.1 ≤ c) && decide (c ≤ x.2)) = q := by funext c; simp
  rw [e]
  exact this
 | cons x xs ih =>
  intro first q hx hf
  obtain ⟨h1, h2⟩ := hx x (by simp)
  have hh := spL_head (x :: xs) r
  have hi := ih false (fun c => q c || (decide (x.1 ≤ c) && decide (c ≤ x.2))) (fun y hy => hx y (by simp [hy])) (fun h => by cases h)
  have e : (fun c => (q c || (decide (x.1 ≤ c) && decide (c ≤ x.2))) || xs.any fun x => decide (x.1 ≤ c) && decide (c ≤ x.2)) = fun c => q c || (x :: xs).any fun x => decide (x.1 ≤ c) && decide (c ≤ x.2) := by
   funext c
   rw [List.any_cons, Bool.or_assoc]
  rw [e] at hi
  refine PR.spans1 (fun _ => hh.2.2 (by simp)) ?_ hi
  rw [spL]
  by_cases he : x.1 = x.2
  ·rw [if_pos he, List.nil_append, List.append_assoc]
   have := pSpan_1 (c := x.1) (by omega) (spL_head xs r).1
   rw [this, ← he]
  ·rw [if_neg he]
   simp only [List.append_assoc, List.cons_append]
   exact pSpan_2 (by omega) h2 h1 _
theorem clsHead_no {l : List Nat} (h : l.head? ≠ some 94) : clsHead l = (false, l) := by
 match l, h with
 | [], _ => rfl
 | 94 :: l, h => exact absurd rfl h
 | x :: l, h =>
  have : x ≠ 94 := fun e => h (by rw [e]; rfl)
  unfold clsHead
  split
  ·next he => simp only [List.cons.injEq] at he; exact absurd he.1 this
  ·rfl
theorem sp_le : ∀ (r : List Nat) (lo hi : Nat), lo ≤ hi → ∀ x ∈ spn lo hi r, x.1 ≤ x.2
 | [], lo, hi, h, x, hx => by simp [spn] at hx; subst hx; exact h
 | b :: r, lo, hi, h, x, hx => by
  simp only [spn] at hx
  split at hx
  ·exact sp_le r lo b (by omega) x hx
  ·rcases List.mem_cons.1 hx with rfl | hx
   ·exact h
   ·exact sp_le r b b (Nat.le_refl _) x hx
theorem spans0_le (l : List Nat) : ∀ x ∈ spans0 l, x.1 ≤ x.2 := by
 cases l with
 | nil => intro x hx; simp [spans0] at hx
 | cons b r => exact sp_le r b b (Nat.le_refl _)
theorem els_one {p : Nat → Bool} {c : Nat} (h : els p = [c]) : st (fun x => x == c) = st p := by
 refine st_congr fun b hb => ?_
 have : b ∈ els p ↔ b < 256 ∧ p b = true := mem_els
 rw [h, List.mem_singleton] at this
 rw [Bool.eq_iff_iff, beq_iff_eq, this]
 simp [hb]
theorem els_none {p : Nat → Bool} (h : els p = []) : st p = z4 := by
 show st p = (⟨0, 0, 0, 0⟩ : Arr4)
 rw [st_none]
 refine st_congr fun b hb => ?_
 have : b ∈ els p ↔ b < 256 ∧ p b = true := mem_els
 rw [h] at this
 cases hp : p b with
 | false => rfl
 | true => exact absurd (this.2 ⟨hb, hp⟩) (by simp)
theorem atom_set (p : Nat → Bool) (hp : st p ≠ z4) (n : Nat) (r : List Nat) : PR (.atom n) (setL p ++ r) (.ok (.set (st p)) r) := by
 have rest : ∀ l, els p = l → (∀ c, l ≠ [c]) → PR (.atom n) ((if (st p).same (st fun c => !(c == 10)) = true then [46] else 91 :: (spL (spans0 l) ++ [93])) ++ r) (.ok (.set (st p)) r) := by
  intro l hl hne
  by_cases hs : (st p).same (st fun c => !(c == 10)) = true
  ·rw [if_pos hs, (same_iff _ _).1 hs]
   have := PR.atomL (n := n) (l := 46 :: r) (by simp) (by simp)
   rwa [pLeaf, if_pos rfl] at this
  ·rw [if_neg hs]
   have hne0 : spans0 l ≠ [] := by
    cases l with
    | nil => exact absurd (els_none hl) hp
    | cons b r => exact sp_ne r b b
   have h1 := spans_pr r (spans0 l) true (fun _ => false) (fun x hx => ⟨spans0_le l x hx, by rw [← hl] at hx; exact (spans0_lt p x hx).2⟩) (fun _ => hne0)
   have e : st (fun c => false || (spans0 l).any fun x => decide (x.1 ≤ c) && decide (c ≤ x.2)) = st p := by
    refine st_congr fun b hb => ?_
    have := spans_any p b hb
    rw [hl] at this
    rw [← this, Bool.false_or, List.any_map]
    rfl
   rw [e] at h1
   have hc := clsHead_no (spL_head (spans0 l) r).2.1
   have h2 := PR.atomC1 (n := n) (l := spL (spans0 l) ++ 93 :: r) (p := p) (c := 93) (r := r) (by rw [hc]; exact h1) (by rw [hc]; exact hp)
   rw [hc] at h2
   have e2 : notS false p = p := by funext c; simp [notS]
   simp only [e2] at h2
   simpa using h2
 rw [setL]
 cases hq : els p with
 | nil => exact rest [] hq (by simp)
 | cons c l =>
  cases l with
  | nil =>
   have hc : c < 256 := (mem_els.1 (by rw [hq]; simp : c ∈ els p)).1
   rw [setB, ← els_one hq]
   exact atom_pb hc n r
  | cons d l => exact rest (c :: d :: l) hq (by simp)
theorem alone {l : List Nat} {t : Pt} (n : Nat) (hs : stopN l = false) (h : PR (.atom n) l (.ok t [])) : PR (.alt n) l (.ok t []) := by
 have h1 : PR (.item n) l (.ok t []) := .item1 h (.itemR0 rfl)
 have h2 : PR (.rowR n) l (.ok (.cons t .nil) []) := .rowR1 hs h1 (.rowR0 rfl)
 exact .alt1 (.row1 h2) (.altR0 (by simp))
theorem setL_lt (p : Nat → Bool) : ∀ c ∈ setL p, c < 256 := by
 have hsp : ∀ xs : List (Nat × Nat), (∀ x ∈ xs, x.1 < 256 ∧ x.2 < 256) → ∀ c ∈ spL xs, c < 256 := by
  intro xs
  induction xs with
  | nil => intro _ c hc; simp [spL] at hc
  | cons x xs ih =>
   intro hx c hc
   obtain ⟨h1, h2⟩ := hx x (by simp)
   rw [spL] at hc
   rcases List.mem_append.1 hc with h | h
   ·exact pbL_lt h1 c h
   ·rcases List.mem_append.1 h with h | h
    ·split at h
     ·simp at h
     ·rcases List.mem_cons.1 h with rfl | h
      ·decide
      ·exact pbL_lt h2 c h
    ·exact ih (fun y hy => hx y (by simp [hy])) c h
 have rest : ∀ c ∈ (if (st p).same (st fun c => !(c == 10)) = true then [46] else 91 :: (spL (spans0 (els p)) ++ [93])), c < 256 := by
  intro c hc
  split at hc
  ·rw [List.mem_singleton.1 hc]; decide
  ·rcases List.mem_cons.1 hc with rfl | h
   ·decide
   ·rcases List.mem_append.1 h with h | h
    ·exact hsp _ (spans0_lt p) c h
    ·rw [List.mem_singleton.1 h]; decide
 intro c hc
 rw [setL] at hc
 cases hq : els p with
 | nil => rw [hq] at hc rest; exact rest c hc
 | cons d l =>
  rw [hq] at hc rest
  cases l with
  | nil => exact pbL_lt (mem_els.1 (by rw [hq]; simp : d ∈ els p)).1 c hc
  | cons e l => exact rest c hc
theorem shown_7000 : l5_shown 7000 = some true := by decide +kernel
end Go.Rv
namespace Go.Rv
def dgF : Nat → Nat → List Nat
 | 0, n => [48 + n]
 | k + 1, n => if n < 10 then [48 + n] else dgF k (n / 10) ++ [48 + n % 10]
def dg (n : Nat) : List Nat := dgF 4 n
theorem dec_dg : ∀ k n, n < 10 ^ (k + 1) → Lib.decDigits n = (dgF k n).map UInt8.ofNat := by
 intro k
 induction k with
 | zero =>
  intro n h
  rw [Lib.decDigits, dif_pos (by simpa using h)]
  rfl
 | succ k ih =>
  intro n h
  rw [Lib.decDigits]
  by_cases hn : n < 10
  ·rw [dif_pos hn, dgF, if_pos hn]; rfl
  ·rw [dif_neg hn, dgF, if_neg hn, ih (n / 10) (by rw [Nat.pow_succ] at h; omega), List.map_append]; rfl
theorem itoa_dg {n : Nat} (h : n < 100000) : itoaS (n : Int) = toB (dg n) := by
 rw [itoaS, Lib.itoa, if_neg (by omega), Int.toNat_natCast, dec_dg 4 n (by simpa using h)]
 rfl
def timesL (lo hi : Int) : List Nat :=
 if lo = 0 ∧ hi = -1 then [42] else if lo = 1 ∧ hi = -1 then [43] else if lo = 0 ∧ hi = 1 then [63]
 else if lo = hi then 123 :: (dg lo.toNat ++ [125]) else if hi = -1 then 123 :: (dg lo.toNat ++ [44, 125])
 else 123 :: (dg lo.toNat ++ 44 :: (dg hi.toNat ++ [125]))
theorem dg_len (n : Nat) : (dg n).length ≤ 5 := by
 have hl : ∀ k n, (dgF k n).length ≤ k + 1 := by
  intro k
  induction k with
  | zero => intro n; exact Nat.le_refl _
  | succ k ih => intro n; rw [dgF]; split; (simp); have := ih (n / 10); simp; omega
 exact hl 4 n
theorem ptimes_ok (K : Nat) {lo hi : Int} (h0 : 0 ≤ lo) (h1 : lo ≤ 4096) (h2 : hi = -1 ∨ (1 ≤ hi ∧ lo ≤ hi ∧ hi ≤ 4096)) : print_times K lo hi = some (toB (timesL lo hi)) := by
 have same2 : ∀ a b c d : Int, Arr2.same ⟨a, b⟩ ⟨c, d⟩ = decide (a = c ∧ b = d) := fun a b c d => by
  rw [Bool.eq_iff_iff]; simp [Arr2.same]
 have hl := dg_len lo.toNat
 have hh := dg_len hi.toNat
 have hi1 : strconv_Itoa K lo = some (toB (dg lo.toNat)) := by
  rw [strconv_Itoa, if_pos (by omega), ← itoa_dg (by omega), Int.toNat_of_nonneg h0]
 rw [print_times, timesL]
 simp only [same2]
 by_cases c1 : lo = 0 ∧ hi = -1
 ·rw [decide_eq_true c1, cT, if_pos c1]; rfl
 rw [decide_eq_false c1, cF, if_neg c1]
 by_cases c2 : lo = 1 ∧ hi = -1
 ·rw [decide_eq_true c2, cT, if_pos c2]; rfl
 rw [decide_eq_false c2, cF, if_neg c2]
 by_cases c3 : lo = 0 ∧ hi = 1
 ·rw [decide_eq_true c3, cT, if_pos c3]; rfl
 rw [decide_eq_false c3, cF, if_neg c3]
 have s1 : (⟨#[123]⟩ : ByteArray) = toB [123] := rfl
 have s2 : (⟨#[125]⟩ : ByteArray) = toB [125] := rfl
 have s3 : (⟨#[44, 125]⟩ : ByteArray) = toB [44, 125] := rfl
 have s4 : (⟨#[44]⟩ : ByteArray) = toB [44] := rfl
 rw [s1, s2, s3, s4]
 simp only [hi1, bS, ← toB_append, toB_size]
 by_cases c4 : lo = hi
 ·rw [decide_eq_true ⟨trivial, c4.symm⟩, cT, if_pos c4, ck_pos (by simp only [List.length_singleton]; omega), ck_pos (by simp only [List.length_append, List.length_singleton]; omega)]
  rfl
 rw [decide_eq_false (fun h => c4 h.2.symm), cF, if_neg c4]
 by_cases c5 : hi = -1
 ·rw [decide_eq_true ⟨trivial, c5⟩, cT, if_pos c5, ck_pos (by simp only [List.length_singleton]; omega), ck_pos (by simp only [List.length_append, List.length_singleton, List.length_cons, List.length_nil]; omega)]
  rfl
 have hi2 : strconv_Itoa K hi = some (toB (dg hi.toNat)) := by
  rw [strconv_Itoa, if_pos (by omega), ← itoa_dg (by omega), Int.toNat_of_nonneg (by omega)]
 rw [decide_eq_false (fun h => c5 h.2), cF, if_neg c5, ck_pos (by simp only [List.length_singleton]; omega), ck_pos (by simp only [List.length_append, List.length_singleton]; omega), hi2, bS]
 simp only [← toB_append, toB_size]
 rw [ck_pos (by simp only [List.length_append, List.length_singleton]; omega), ck_pos (by simp only [List.length_append, List.length_singleton]; omega)]
 simp only [List.append_assoc, List.cons_append, List.nil_append]
end Go.Rv
namespace Go.Rv
def opN : Pt → Nat
 | .empty => 1
 | .set _ => 2
 | .cat _ => 3
 | .alt _ => 4
 | .rep _ _ _ => 5
 | .ref _ => 6
 | .nil => 0
 | .cons _ _ => 0
def wrN (par kid : Nat) : Bool := if kid = 4 then true else if kid = 1 ∨ kid = 3 then par != 4 else false
def kidL (par kid : Nat) (s : List Nat) : List Nat := if wrN par kid = true then 40 :: (s ++ [41]) else s
def joinL : List (List Nat) → List Nat
 | [] => []
 | [x] => x
 | x :: y :: r => x ++ 124 :: joinL (y :: r)
def tx : Pt → List Nat × List (List Nat) × List (List Nat)
 | .empty => ([], [], [])
 | .set s => (setL (pr s), [], [])
 | .ref nm => (123 :: (nm ++ [125]), [], [])
 | .rep t lo hi => (kidL 5 (opN t) (tx t).1 ++ timesL lo hi, [], [])
 | .cat f => ((tx f).2.1.flatten, [], [])
 | .alt f => (joinL (tx f).2.2, [], [])
 | .nil => ([], [], [])
 | .cons t f => ([], kidL 3 (opN t) (tx t).1 :: (tx f).2.1, kidL 4 (opN t) (tx t).1 :: (tx f).2.2)
abbrev txt (t : Pt) : List Nat := (tx t).1
def txAll : Pt → List (List Nat)
 | .empty => [[]]
 | .set s => [txt (.set s)]
 | .ref nm => [txt (.ref nm)]
 | .rep t lo hi => txAll t ++ [txt (.rep t lo hi)]
 | .cat f => txAll f ++ [txt (.cat f)]
 | .alt f => txAll f ++ [txt (.alt f)]
 | .nil => []
 | .cons t f => txAll t ++ txAll f
theorem txAll_len : ∀ t : Pt, (txAll t).length = t.sz
 | .empty => rfl
 | .set _ => rfl
 | .ref _ => rfl
 | .rep t _ _ => by simp [txAll, Pt.sz, txAll_len t]
 | .cat f => by simp [txAll, Pt.sz, txAll_len f]
 | .alt f => by simp [txAll, Pt.sz, txAll_len f]
 | .nil => rfl
 | .cons t f => by simp [txAll, Pt.sz, txAll_len t, txAll_len f]
theorem sz_pos {t : Pt} (h : t.wf true) : 1 ≤ t.sz := by
 cases t <;> simp [Pt.sz, Pt.wf] at h ⊢
theorem txAll_last {t : Pt} (h : t.wf true) : ∃ l, txAll t = l ++ [txt t] := by
 cases t with
 | empty => exact ⟨[], rfl⟩
 | set s => exact ⟨[], rfl⟩
 | ref nm => exact ⟨[], rfl⟩
 | rep t lo hi => exact ⟨txAll t, rfl⟩
 | cat f => exact ⟨txAll f, rfl⟩
 | alt f => exact ⟨txAll f, rfl⟩
 | nil => simp [Pt.wf] at h
 | cons t f => simp [Pt.wf] at h
theorem flat_last {t : Pt} (h : t.wf true) (n : Nat) : ∃ l x, t.flat n = l ++ [x] ∧ x.Op = (opN t : Int) := by
 cases t with
 | empty => exact ⟨[], _, rfl, rfl⟩
 | set s => exact ⟨[], _, rfl, rfl⟩
 | ref nm => exact ⟨[], _, rfl, rfl⟩
 | rep t lo hi => exact ⟨t.flat n, _, rfl, rfl⟩
 | cat f => exact ⟨f.flat n, _, rfl, rfl⟩
 | alt f => exact ⟨f.flat n, _, rfl, rfl⟩
 | nil => simp [Pt.wf] at h
 | cons t f => simp [Pt.wf] at h
def kids : Nat → Pt → List (Nat × Nat × List Nat)
 | n, .cons t f => (n + t.sz - 1, opN t, txt t) :: kids (n + t.sz) f
 | _, _ => []
theorem kids_roots : ∀ (f : Pt) (n : Nat), f.wf false → f.roots n = (kids n f).map fun q => ((q.1 : Nat) : Int)
 | .cons t f, n, h => by
  have h1 := sz_pos h.1
  rw [Pt.roots, kids, List.map_cons, kids_roots f (n + t.sz) h.2]
  congr 1
  simp only
  omega
 | .nil, _, _ => rfl
 | .empty, _, h => by simp [Pt.wf] at h
 | .set _, _, h => by simp [Pt.wf] at h
 | .ref _, _, h => by simp [Pt.wf] at h
 | .rep _ _ _, _, h => by simp [Pt.wf] at h
 | .cat _, _, h => by simp [Pt.wf] at h
 | .alt _, _, h => by simp [Pt.wf] at h
theorem kids_cat : ∀ (f : Pt) (n : Nat), (tx f).2.1 = (kids n f).map (fun q => kidL 3 q.2.1 q.2.2) ∨ f.wf false = False
 | .cons t f, n => by
  rcases kids_cat f (n + t.sz) with h | h
  ·left; rw [tx, kids, List.map_cons, ← h]
  ·right; simp only [Pt.wf, h, and_false]
 | .nil, _ => .inl rfl
 | .empty, _ => .inl rfl
 | .set _, _ => .inl rfl
 | .ref _, _ => .inl rfl
 | .rep _ _ _, _ => .inl rfl
 | .cat _, _ => .inl rfl
 | .alt _, _ => .inl rfl
theorem kids_alt : ∀ (f : Pt) (n : Nat), (tx f).2.2 = (kids n f).map (fun q => kidL 4 q.2.1 q.2.2) ∨ f.wf false = False
 | .cons t f, n => by
  rcases kids_alt f (n + t.sz) with h | h
  ·left; rw [tx, kids, List.map_cons, ← h]
  ·right; simp only [Pt.wf, h, and_false]
 | .nil, _ => .inl rfl
 | .empty, _ => .inl rfl
 | .set _, _ => .inl rfl
 | .ref _, _ => .inl rfl
 | .rep _ _ _, _ => .inl rfl
 | .cat _, _ => .inl rfl
 | .alt _, _ => .inl rfl
theorem kids_len (f : Pt) : ∀ n, (kids n f).length ≤ f.sz ∨ f.wf false = False := by
 induction f with
 | cons t f _ ih =>
  intro n
  rcases ih (n + t.sz) with h | h
  ·by_cases hw : t.wf true
   ·have := sz_pos hw
    left; rw [kids, List.length_cons, Pt.sz]; omega
   ·right; simp [Pt.wf, hw]
  ·right; simp only [Pt.wf, h, and_false]
 | _ => intro n; left; simp [kids]
/- How long a text is. -/
theorem spL_len : ∀ xs : List (Nat × Nat), (∀ x ∈ xs, x.1 < 256 ∧ x.2 < 256) → (spL xs).length ≤ 9 * xs.length
 | [], _ => by simp [spL]
 | x :: xs, h => by
  obtain ⟨h1, h2⟩ := h x (by simp)
  have h3 := pbL_len h1
  have h4 := pbL_len h2
  have ih := spL_len xs fun y hy => h y (by simp [hy])
  rw [spL, List.length_append, List.length_append, List.length_cons]
  split
  ·simp only [List.length_nil]; omega
  ·simp only [List.length_cons]; omega
theorem setL_len (p : Nat → Bool) : (setL p).length ≤ 2400 := by
 have h1 := spL_len _ (spans0_lt p)
 have h2 := spans0_len (els p)
 have h3 := els_len p
 have rest : (if (st p).same (st fun c => !(c == 10)) = true then [46] else 91 :: (spL (spans0 (els p)) ++ [93])).length ≤ 2400 := by
  split
  ·simp
  ·simp only [List.length_cons, List.length_append, List.length_nil]; omega
 rw [setL]
 cases hq : els p with
 | nil => rw [hq] at rest; exact rest
 | cons c l =>
  cases l with
  | nil =>
   have := pbL_len (mem_els.1 (by rw [hq]; simp : c ∈ els p)).1
   rw [setB]; omega
  | cons d l => rw [hq] at rest; exact rest
theorem timesL_len (lo hi : Int) : (timesL lo hi).length ≤ 13 := by
 have h1 := dg_len lo.toNat
 have h2 := dg_len hi.toNat
 unfold timesL
 repeat (first | split | (simp only [List.length_cons, List.length_append, List.length_nil]; omega))
theorem kidL_len (par kid : Nat) (s : List Nat) : (kidL par kid s).length ≤ s.length + 2 := by
 unfold kidL
 split
 ·simp
 ·omega
theorem joinL_len : ∀ l : List (List Nat), (joinL l).length ≤ l.flatten.length + l.length
 | [] => by simp [joinL]
 | [x] => by simp [joinL]
 | x :: y :: r => by
  have := joinL_len (y :: r)
  rw [joinL, List.length_append, List.length_cons, List.flatten_cons, List.length_append, List.length_cons (a := x)]
  omega
theorem tx_len : ∀ (t : Pt) (b : Bool), t.wf b → (b = true → (tx t).1.length + 3 ≤ 3000 * t.sz) ∧ (b = false → (tx t).2.1.flatten.length ≤ 3000 * t.sz ∧ (tx t).2.2.flatten.length + (tx t).2.2.length ≤ 3000 * t.sz ∧ (∀ x ∈ (tx t).2.1, x.length ≤ 3000 * t.sz))
 | .empty, b, h => ⟨fun _ => by simp [tx, Pt.sz], fun hb => by subst hb; simp [Pt.wf] at h⟩
 | .set s, b, h => ⟨fun _ => by have := setL_len (pr s); simp only [tx, Pt.sz]; omega, fun hb => by subst hb; simp [Pt.wf] at h⟩
 | .ref nm, b, h => ⟨fun hb => by
   subst hb
   have : nm.length ≤ 32 := by
    have := h.1
    simp only [nameOk, Bool.and_eq_true, decide_eq_true_eq] at this
    exact this.2
   simp only [tx, Pt.sz, List.length_cons, List.length_append, List.length_nil]; omega, fun hb => by subst hb; simp [Pt.wf] at h⟩
 | .rep t lo hi, b, h => by
  cases b with
  | false => simp [Pt.wf] at h
  | true =>
   have h1 := (tx_len t true h.1).1 rfl
   have h2 := kidL_len 5 (opN t) (tx t).1
   have h3 := timesL_len lo hi
   refine ⟨fun _ => ?_, fun hb => by cases hb⟩
   simp only [tx, Pt.sz, List.length_append]
   omega
 | .cat f, b, h => by
  cases b with
  | false => simp [Pt.wf] at h
  | true =>
   have h1 := ((tx_len f false h.2).2 rfl).1
   refine ⟨fun _ => ?_, fun hb => by cases hb⟩
   simp only [tx, Pt.sz]
   omega
 | .alt f, b, h => by
  cases b with
  | false => simp [Pt.wf] at h
  | true =>
   have h1 := ((tx_len f false h.2).2 rfl).2.1
   have h2 := joinL_len (tx f).2.2
   refine ⟨fun _ => ?_, fun hb => by cases hb⟩
   simp only [tx, Pt.sz]
   omega
 | .nil, b, h => by
  cases b with
  | true => simp [Pt.wf] at h
  | false => exact ⟨fun hb => (by cases hb), fun _ => by simp [tx]⟩
 | .cons t f, b, h => by
  cases b with
  | true => simp [Pt.wf] at h
  | false =>
   have h1 := (tx_len t true h.1).1 rfl
   obtain ⟨h2, h3, h4⟩ := (tx_len f false h.2).2 rfl
   have k3 := kidL_len 3 (opN t) (tx t).1
   have k4 := kidL_len 4 (opN t) (tx t).1
   refine ⟨fun hb => (by cases hb), fun _ => ⟨?_, ?_, ?_⟩⟩
   ·simp only [tx, Pt.sz, List.flatten_cons, List.length_append]; omega
   ·simp only [tx, Pt.sz, List.flatten_cons, List.length_append, List.length_cons]; omega
   ·intro x hx
    simp only [tx, Pt.sz] at hx ⊢
    rcases List.mem_cons.1 hx with rfl | hx
    ·omega
    ·have := h4 x hx; omega
/- Joins. -/
theorem join_flat (ls : List (List Nat)) : joinS (ls.map toB) (⟨#[]⟩ : ByteArray) = toB ls.flatten := by
 have h : ∀ ls : List (List UInt8), Lib.join ls [] = ls.flatten := by
  intro ls
  cases ls with
  | nil => rfl
  | cons x r => rw [Lib.join_cons, Lib.joinTail]; simp
 rw [joinS, toB, show (⟨#[]⟩ : ByteArray).data.toList = [] from rfl, h]
 simp [toB, List.map_flatten, Function.comp_def]
theorem join_bar (ls : List (List Nat)) : joinS (ls.map toB) (⟨#[124]⟩ : ByteArray) = toB (joinL ls) := by
 have h : ∀ ls : List (List Nat), Lib.join (ls.map fun l => l.map UInt8.ofNat) [124] = (joinL ls).map UInt8.ofNat := by
  intro ls
  cases ls with
  | nil => rfl
  | cons x r =>
   rw [List.map_cons, Lib.join_cons]
   induction r generalizing x with
   | nil => simp [Lib.joinTail, joinL]
   | cons y r ih =>
    have := ih y
    have e : (joinL (x :: y :: r)).map UInt8.ofNat = x.map UInt8.ofNat ++ 124 :: (joinL (y :: r)).map UInt8.ofNat := by rw [joinL, List.map_append]; rfl
    rw [e, ← this]
    simp [Lib.joinTail]
 rw [joinS, toB, show (⟨#[124]⟩ : ByteArray).data.toList = [124] from rfl, ← h]
 simp [toB, Function.comp_def]
theorem wrapped_ok (K par kid : Nat) : pW K (par : Int) (kid : Int) = some (wrN par kid) := by
 have beq : ∀ a b : Nat, ((a : Int) == (b : Int)) = decide (a = b) := fun a b => by rw [Bool.eq_iff_iff]; simp; omega
 have b4 := beq kid 4
 have b1 := beq kid 1
 have b3 := beq kid 3
 have p4 : ((par : Int) != 4) = (par != 4) := by
  have := beq par 4
  have e2 : (par == 4) = decide (par = 4) := by rw [Bool.eq_iff_iff]; simp
  simp only [bne, e2]
  rw [show ((par : Int) == 4) = decide (par = 4) from this]
 rw [pW, show ((kid : Int) == 4) = decide (kid = 4) from b4, show ((kid : Int) == 1) = decide (kid = 1) from b1, show ((kid : Int) == 3) = decide (kid = 3) from b3, wrN]
 by_cases h4 : kid = 4
 ·rw [decide_eq_true h4, cT, if_pos h4]
 ·rw [decide_eq_false h4, cF, if_neg h4]
  by_cases h1 : kid = 1
  ·rw [decide_eq_true h1, cT, if_pos (.inl h1), pW_j0, cT, p4]
  ·rw [decide_eq_false h1, cF]
   by_cases h3 : kid = 3
   ·rw [decide_eq_true h3, if_pos (.inr h3), pW_j0, cT, p4]
   ·rw [decide_eq_false h3, if_neg (by omega), pW_j0, cF]
theorem kids_loop (K : Nat) (go : List aNd → Int → Int → List ByteArray → Option (ByteArray × Bool)) (x0 : List aNd) (out : List ByteArray) (i a : Int) (op : Nat) (S : Arr4) (Lf : List Int) (lo hi : Int) (nm : ByteArray) (kk : List (Nat × Nat × List Nat)) (hl : kk.length ≤ 2000)
  (hk : ∀ q ∈ kk, (∃ x, x0[q.1]? = some x ∧ x.Op = (q.2.1 : Int)) ∧ out[q.1]? = some (toB q.2.2) ∧ q.2.2.length ≤ 10000000) :
  ∀ m k j, kk.length - j = m → j ≤ kk.length → m < k →
   pT_l1 K go k x0 i a i (kk.map fun q => ((q.1 : Nat) : Int)) (kk.length : Int) (j : Int) out (op : Int) S Lf lo hi nm ((kk.take j).map fun q => toB (kidL op q.2.1 q.2.2)) =
   pT_l1 K go 1 x0 i a i (kk.map fun q => ((q.1 : Nat) : Int)) (kk.length : Int) (kk.length : Int) out (op : Int) S Lf lo hi nm (kk.map fun q => toB (kidL op q.2.1 q.2.2)) := by
 intro m
 induction m with
 | zero =>
  intro k j hm hj hk'
  obtain ⟨k, rfl⟩ : ∃ k', k = k' + 1 := ⟨k - 1, by omega⟩
  have hj' : j = kk.length := by omega
  subst hj'
  rw [List.take_length, pT_l1, pT_l1]
  dsimp only
  rw [decide_eq_false (by omega), cF, cF]
 | succ m ih =>
  intro k j hm hj hk'
  obtain ⟨k, rfl⟩ : ∃ k', k = k' + 1 := ⟨k - 1, by omega⟩
  have hlt : j < kk.length := by omega
  obtain ⟨⟨x, hx, hop⟩, ho, hsz⟩ := hk kk[j] (List.getElem_mem hlt)
  have e : IntKind.i64.wrap ((j : Int) + 1) = ((j + 1 : Nat) : Int) := by rw [IntKind.wrap_i64]; omega
  have g1 : geti (kk.map fun q => ((q.1 : Nat) : Int)) (j : Int) = some ((kk[j].1 : Nat) : Int) := by
   rw [geti_nat (by simpa using hlt)]; simp
  have getn : ∀ {α : Type} {l : List α} {n : Nat} {y : α}, l[n]? = some y → geti l (n : Int) = some y := fun {α l n y} h => by
   obtain ⟨h1, h2⟩ := List.getElem?_eq_some_iff.1 h
   rw [geti_nat h1, h2]
  have htake : (kk.take (j + 1)).map (fun q => toB (kidL op q.2.1 q.2.2)) = (kk.take j).map (fun q => toB (kidL op q.2.1 q.2.2)) ++ [toB (kidL op kk[j].2.1 kk[j].2.2)] := by
   rw [← List.take_append_getElem hlt, List.map_append]; rfl
  have hroom : ∀ x : ByteArray, roomy 16 (((kk.take j).map fun q => toB (kidL op q.2.1 q.2.2)).length + [x].length) = true := fun x => roomy_iff.2 (by
   simp only [List.length_map, List.length_take, List.length_singleton, maxLen]; omega)
  have hih := ih k (j + 1) (by omega) (by omega) (by omega)
  rw [htake] at hih
  rw [pT_l1]
  dsimp only
  rw [decide_eq_true (by omega), cT, g1, bS, getn ho, bS, getn hx, bS, hop, wrapped_ok, bS]
  by_cases hw : wrN op kk[j].2.1 = true
  ·have hkl : toB (kidL op kk[j].2.1 kk[j].2.2) = ((⟨#[40]⟩ : ByteArray) ++ toB kk[j].2.2) ++ (⟨#[41]⟩ : ByteArray) := by
    rw [kidL, if_pos hw, show (⟨#[40]⟩ : ByteArray) = toB [40] from rfl, show (⟨#[41]⟩ : ByteArray) = toB [41] from rfl, ← toB_append, ← toB_append]; rfl
   have q1 : (⟨#[40]⟩ : ByteArray).size = 1 := rfl
   have q2 : (⟨#[41]⟩ : ByteArray).size = 1 := rfl
   rw [hw, cT, ck_pos (by rw [q1, toB_size]; omega), ck_pos (by rw [ByteArray.size_append, q1, q2, toB_size]; omega), pT_j2, ck_pos (hroom _), e, ← hkl]
   exact hih
  ·have hkl : kidL op kk[j].2.1 kk[j].2.2 = kk[j].2.2 := by rw [kidL, if_neg hw]
   rw [Bool.not_eq_true] at hw
   rw [hkl] at hih
   rw [hw, cF, pT_j2, ck_pos (hroom _), e]
   exact hih
end Go.Rv
namespace Go.Rv
theorem getn {α : Type} {l : List α} {n : Nat} {y : α} (h : l[n]? = some y) : geti l (n : Int) = some y := by
 obtain ⟨h1, h2⟩ := List.getElem?_eq_some_iff.1 h
 rw [geti_nat h1, h2]
def AtN (x0 : List aNd) (n : Nat) (l : List aNd) : Prop := ∀ j x, l[j]? = some x → x0[n + j]? = some x
theorem AtN.left {x0 : List aNd} {n : Nat} {l m : List aNd} (h : AtN x0 n (l ++ m)) : AtN x0 n l := fun j x hj => h j x (by
 rw [List.getElem?_append_left (List.getElem?_eq_some_iff.1 hj).1]; exact hj)
theorem AtN.right {x0 : List aNd} {n : Nat} {l m : List aNd} (h : AtN x0 n (l ++ m)) : AtN x0 (n + l.length) m := fun j x hj => by
 have := h (l.length + j) x (by rw [List.getElem?_append_right (by omega)]; simpa using hj)
 rwa [← Nat.add_assoc] at this
theorem AtN.root {x0 : List aNd} {n : Nat} {t : Pt} (hw : t.wf true) (h : AtN x0 n (t.flat n)) : ∃ x, x0[n + t.sz - 1]? = some x ∧ x.Op = (opN t : Int) := by
 obtain ⟨l, x, h1, h2⟩ := flat_last hw n
 have h3 := Pt.flat_len t n
 rw [h1, List.length_append, List.length_singleton] at h3
 have := h l.length x (by rw [h1]; simp)
 exact ⟨x, by rw [show n + t.sz - 1 = n + l.length by omega]; exact this, h2⟩
theorem kids_at {x0 : List aNd} : ∀ (f : Pt) (n : Nat) (A B : List ByteArray), f.wf false → AtN x0 n (f.flat n) → A.length = n → f.sz ≤ 1100 →
  ∀ q ∈ kids n f, (∃ x, x0[q.1]? = some x ∧ x.Op = (q.2.1 : Int)) ∧ (A ++ ((txAll f).map toB ++ B))[q.1]? = some (toB q.2.2) ∧ q.2.2.length ≤ 10000000
 | .cons t f, n, A, B, hw, hx, hA, hs => by
  intro q hq
  have h1 : AtN x0 n (t.flat n) := AtN.left hx
  have h2 := AtN.right hx
  rw [Pt.flat_len] at h2
  have hp := sz_pos hw.1
  rw [Pt.sz] at hs
  rw [kids] at hq
  rcases List.mem_cons.1 hq with rfl | hq
  ·refine ⟨AtN.root hw.1 h1, ?_, ?_⟩
   ·obtain ⟨l, hl⟩ := txAll_last hw.1
    have hlen := txAll_len t
    rw [hl, List.length_append, List.length_singleton] at hlen
    simp only
    rw [List.getElem?_append_right (by omega), txAll, List.map_append, List.append_assoc, List.getElem?_append_left (by rw [List.length_map, txAll_len]; omega), hl, List.map_append, List.getElem?_append_right (by rw [List.length_map]; omega), List.length_map, show n + t.sz - 1 - A.length - l.length = 0 by omega]
    rfl
   ·have := (tx_len t true hw.1).1 rfl
    show (tx t).1.length ≤ _
    omega
  ·have := kids_at f (n + t.sz) (A ++ (txAll t).map toB) B hw.2 h2 (by rw [List.length_append, List.length_map, txAll_len, hA]) (by omega) q hq
   rw [txAll, List.map_append]
   simpa only [List.append_assoc] using this
 | .nil, n, A, B, _, _, _, _ => fun q hq => by simp [kids] at hq
 | .empty, _, _, _, h, _, _, _ => by simp [Pt.wf] at h
 | .set _, _, _, _, h, _, _, _ => by simp [Pt.wf] at h
 | .ref _, _, _, _, h, _, _, _ => by simp [Pt.wf] at h
 | .rep _ _ _, _, _, _, h, _, _, _ => by simp [Pt.wf] at h
 | .cat _, _, _, _, h, _, _, _ => by simp [Pt.wf] at h
 | .alt _, _, _, _, h, _, _, _ => by simp [Pt.wf] at h
abbrev e0 : ByteArray := ⟨#[]⟩
theorem set_mid {α : Type} (A B : List α) (x y : α) : (A ++ (x :: B)).set A.length y = A ++ (y :: B) := by simp
theorem get_mid {α : Type} (A B : List α) (x : α) : (A ++ (x :: B))[A.length]? = some x := by simp
theorem node_step (K k : Nat) (hK : 3000 ≤ K) (x0 : List aNd) (hlen : x0.length ≤ 1100) (A B : List ByteArray) (kk : List (Nat × Nat × List Nat)) (op : Nat) (S : Arr4) (lo hi : Int) (nm : ByteArray) (hl : kk.length ≤ 2000)
  (hnode : x0[A.length]? = some ⟨(op : Int), S, kk.map fun q => ((q.1 : Nat) : Int), lo, hi, nm⟩)
  (hk : ∀ q ∈ kk, (∃ x, x0[q.1]? = some x ∧ x.Op = (q.2.1 : Int)) ∧ (A ++ (e0 :: B))[q.1]? = some (toB q.2.2) ∧ q.2.2.length ≤ 10000000) :
  pT_l0 K (k + 1) x0 (x0.length : Int) (A.length : Int) (A ++ (e0 :: B)) =
  pT_l1 K (pT_l0 K k) 1 x0 (A.length : Int) (x0.length : Int) (A.length : Int) (kk.map fun q => ((q.1 : Nat) : Int)) (kk.length : Int) (kk.length : Int) (A ++ (e0 :: B)) (op : Int) S (kk.map fun q => ((q.1 : Nat) : Int)) lo hi nm (kk.map fun q => toB (kidL op q.2.1 q.2.2)) := by
 have hlt := (List.getElem?_eq_some_iff.1 hnode).1
 have hloop := kids_loop K (pT_l0 K k) x0 (A ++ (e0 :: B)) (A.length : Int) (x0.length : Int) op S (kk.map fun q => ((q.1 : Nat) : Int)) lo hi nm kk hl hk kk.length K 0 rfl (Nat.zero_le _) (by omega)
 rw [pT_l0]
 dsimp only
 rw [decide_eq_true (by omega), cT, getn hnode, bS]
 dsimp only
 rw [List.length_map]
 exact hloop
theorem step_next (i : Nat) (h : i < 100000) : IntKind.i64.wrap ((i : Int) + 1) = ((i + 1 : Nat) : Int) := by rw [IntKind.wrap_i64]; omega
section
variable (K k : Nat) (x0 : List aNd) (A B : List ByteArray) (hA : A.length < 2000)
include hA
theorem end_put (op : Nat) (L Lf : List Int) (S : Arr4) (lo hi : Int) (nm : ByteArray) (W : List ByteArray) (text : List Nat) (n : Int)
  (h : op = 1 ∧ text = [] ∨ op = 2 ∧ print_Set K S = some (toB text) ∨ op = 6 ∧ (text = 123 :: (bs nm ++ [125])) ∧ nm.size ≤ 1000 ∨
   op = 5 ∧ (∃ w W' u, W = toB w :: W' ∧ print_times K lo hi = some (toB u) ∧ text = w ++ u ∧ text.length ≤ 100000000) ∨
   op = 3 ∧ (∃ ls : List (List Nat), W = ls.map toB ∧ text = ls.flatten ∧ ls.length ≤ 2000 ∧ text.length ≤ 100000000) ∨
   op = 4 ∧ (∃ ls : List (List Nat), W = ls.map toB ∧ text = joinL ls ∧ ls.length ≤ 2000 ∧ text.length ≤ 100000000)) :
  pT_l1 K (pT_l0 K k) 1 x0 (A.length : Int) (x0.length : Int) (A.length : Int) L n n (A ++ (e0 :: B)) (op : Int) S Lf lo hi nm W = pT_l0 K k x0 (x0.length : Int) ((A.length + 1 : Nat) : Int) (A ++ (toB text :: B)) := by
 have hg : geti (A ++ (e0 :: B)) (A.length : Int) = some e0 := getn (get_mid A B e0)
 have hs : ∀ y, List.set (A ++ (e0 :: B)) (Int.toNat (A.length : Int)) y = A ++ (y :: B) := fun y => by rw [Int.toNat_natCast, set_mid]
 rw [pT_l1]
 dsimp only
 rw [decide_eq_false (by omega), cF]
 rcases h with ⟨rfl, rfl⟩ | ⟨rfl, h⟩ | ⟨rfl, rfl, h⟩ | ⟨rfl, w, W', u, rfl, h, rfl, hl⟩ | ⟨rfl, ls, rfl, rfl, h1, hl⟩ | ⟨rfl, ls, rfl, rfl, h1, hl⟩
 ·simp only [show (((1 : Nat) : Int) == 2) = false from rfl, show (((1 : Nat) : Int) == 6) = false from rfl, show (((1 : Nat) : Int) == 5) = false from rfl, show (((1 : Nat) : Int) == 3) = false from rfl, show (((1 : Nat) : Int) == 4) = false from rfl, cF]
  rw [step_next _ (by omega)]
  rfl
 ·simp only [show (((2 : Nat) : Int) == 2) = true from rfl, cT]
  rw [h, bS, hg, bS, step_next _ (by omega), hs]
 ·simp only [show (((6 : Nat) : Int) == 2) = false from rfl, show (((6 : Nat) : Int) == 6) = true from rfl, cT, cF]
  have q1 : (⟨#[123]⟩ : ByteArray).size = 1 := rfl
  have q2 : (⟨#[125]⟩ : ByteArray).size = 1 := rfl
  have e : ((⟨#[123]⟩ : ByteArray) ++ nm) ++ (⟨#[125]⟩ : ByteArray) = toB (123 :: (bs nm ++ [125])) := by
   rw [show (123 :: (bs nm ++ [125])) = ([123] ++ bs nm) ++ [125] from by simp, toB_append, toB_append, toB_bs]; rfl
  rw [ck_pos (by rw [q1]; omega), ck_pos (by rw [ByteArray.size_append, q1, q2]; omega), hg, bS, step_next _ (by omega), hs, e]
 ·simp only [show (((5 : Nat) : Int) == 2) = false from rfl, show (((5 : Nat) : Int) == 6) = false from rfl, show (((5 : Nat) : Int) == 5) = true from rfl, cT, cF]
  have hw : geti (toB w :: W') (0 : Int) = some (toB w) := rfl
  rw [List.length_append] at hl
  rw [hw, bS, h, bS, ck_pos (by rw [toB_size, toB_size]; omega), hg, bS, step_next _ (by omega), hs, toB_append]
 ·simp only [show (((3 : Nat) : Int) == 2) = false from rfl, show (((3 : Nat) : Int) == 6) = false from rfl, show (((3 : Nat) : Int) == 5) = false from rfl, show (((3 : Nat) : Int) == 3) = true from rfl, cT, cF]
  rw [strings_Join, join_flat, if_pos ⟨by rw [List.length_map]; omega, by rw [toB_size]; omega⟩, bS, hg, bS, step_next _ (by omega), hs]
 ·simp only [show (((4 : Nat) : Int) == 2) = false from rfl, show (((4 : Nat) : Int) == 6) = false from rfl, show (((4 : Nat) : Int) == 5) = false from rfl, show (((4 : Nat) : Int) == 3) = false from rfl, show (((4 : Nat) : Int) == 4) = true from rfl, cT, cF]
  rw [strings_Join, join_bar, if_pos ⟨by rw [List.length_map]; omega, by rw [toB_size]; omega⟩, bS, hg, bS, step_next _ (by omega), hs]
end
def OkSets : Pt → Prop
 | .set s => s = st (pr s)
 | .rep t _ _ => OkSets t
 | .cat f => OkSets f
 | .alt f => OkSets f
 | .cons t f => OkSets t ∧ OkSets f
 | _ => True
theorem rep_split {α : Type} (n m : Nat) (x : α) : List.replicate (n + m) x = List.replicate n x ++ List.replicate m x := by rw [List.replicate_append_replicate]
theorem run_ok (K : Nat) (hK : 3000 ≤ K) (x0 : List aNd) (hlen : x0.length ≤ 1100) : ∀ (t : Pt) (b : Bool), t.wf b → OkSets t → ∀ (k : Nat) (A B : List ByteArray), AtN x0 A.length (t.flat A.length) → A.length + t.sz ≤ x0.length →
  pT_l0 K (k + t.sz) x0 (x0.length : Int) (A.length : Int) (A ++ (List.replicate t.sz e0 ++ B)) = pT_l0 K k x0 (x0.length : Int) ((A.length + t.sz : Nat) : Int) (A ++ ((txAll t).map toB ++ B))
 | .empty, b, hw, ho, k, A, B, hx, hs => by
  have hn := hx 0 _ rfl
  have h1 := node_step K k hK x0 hlen A B [] 1 z4 0 0 noB (by simp) hn (fun q hq => by simp at hq)
  have h2 := end_put K k x0 A B (by omega) 1 [] [] z4 0 0 noB [] [] 0 (.inl ⟨rfl, rfl⟩)
  exact h1.trans h2
 | .set s, b, hw, ho, k, A, B, hx, hs => by
  have hn := hx 0 _ rfl
  have h1 := node_step K k hK x0 hlen A B [] 2 s 0 0 noB (by simp) hn (fun q hq => by simp at hq)
  have hset : print_Set K s = some (toB (setL (pr s))) := by
   have := Set_ok K (by omega) (pr s)
   rw [← show s = st (pr s) from ho] at this
   exact this
  have h2 := end_put K k x0 A B (by omega) 2 [] [] s 0 0 noB [] (setL (pr s)) 0 (.inr (.inl ⟨rfl, hset⟩))
  exact h1.trans h2
 | .ref nm, b, hw, ho, k, A, B, hx, hs => by
  cases b with
  | false => simp [Pt.wf] at hw
  | true =>
   have hn := hx 0 _ rfl
   have h1 := node_step K k hK x0 hlen A B [] 6 z4 0 0 (toB nm) (by simp) hn (fun q hq => by simp at hq)
   have hl : nm.length ≤ 32 := by
    have := hw.1
    simp only [nameOk, Bool.and_eq_true, decide_eq_true_eq] at this
    exact this.2
   have h2 := end_put K k x0 A B (by omega) 6 [] [] z4 0 0 (toB nm) [] (123 :: (nm ++ [125])) 0 (.inr (.inr (.inl ⟨rfl, by rw [bs_toB hw.2], by rw [toB_size]; omega⟩)))
   exact h1.trans h2
 | .rep t lo hi, b, hw, ho, k, A, B, hx, hs => by
  cases b with
  | false => simp [Pt.wf] at hw
  | true =>
   have hp := sz_pos hw.1
   rw [Pt.sz] at hs
   have hx1 : AtN x0 A.length (t.flat A.length) := AtN.left hx
   have hx2 := AtN.right hx
   rw [Pt.flat_len] at hx2
   have ih := run_ok K hK x0 hlen t true hw.1 ho (k + 1) A ([e0] ++ B) hx1 (by omega)
   have hAl : (A ++ (txAll t).map toB).length = A.length + t.sz := by rw [List.length_append, List.length_map, txAll_len]
   have hn : x0[(A ++ (txAll t).map toB).length]? = some ⟨5, z4, [((A.length + t.sz - 1 : Nat) : Int)], lo, hi, noB⟩ := by
    have := hx2 0 _ rfl
    rw [hAl, show ((A.length + t.sz - 1 : Nat) : Int) = ((A.length + t.sz : Nat) : Int) - 1 by omega]
    exact this
   have hb := (tx_len t true hw.1).1 rfl
   have hkt : ∀ q ∈ [(A.length + t.sz - 1, opN t, txt t)], (∃ x, x0[q.1]? = some x ∧ x.Op = (q.2.1 : Int)) ∧ ((A ++ (txAll t).map toB) ++ (e0 :: B))[q.1]? = some (toB q.2.2) ∧ q.2.2.length ≤ 10000000 := by
    intro q hq
    rw [List.mem_singleton.1 hq]
    have := kids_at (.cons t .nil) A.length A (e0 :: B) ⟨hw.1, trivial⟩ (by rw [Pt.flat, Pt.flat, List.append_nil]; exact hx1) rfl (by simp only [Pt.sz]; omega) (A.length + t.sz - 1, opN t, txt t) (by simp [kids])
    rw [txAll, txAll, List.append_nil] at this
    rwa [List.append_assoc]
   have h1 := node_step K k hK x0 hlen (A ++ (txAll t).map toB) B [(A.length + t.sz - 1, opN t, txt t)] 5 z4 lo hi noB (by simp) hn hkt
   have hbb := (tx_len (.rep t lo hi) true hw).1 rfl
   have h2 := end_put K k x0 (A ++ (txAll t).map toB) B (by omega) 5 [((A.length + t.sz - 1 : Nat) : Int)] [((A.length + t.sz - 1 : Nat) : Int)] z4 lo hi noB [toB (kidL 5 (opN t) (txt t))] (txt (.rep t lo hi)) 1
    (.inr (.inr (.inr (.inl ⟨rfl, kidL 5 (opN t) (txt t), [], timesL lo hi, rfl, ptimes_ok K hw.2.1 hw.2.2.1 hw.2.2.2, rfl, by simp only [Pt.sz] at hbb; show (tx (.rep t lo hi)).1.length ≤ _; omega⟩))))
   have h3 := h1.trans h2
   rw [Pt.sz, rep_split, txAll, List.map_append]
   rw [hAl] at h3
   simp only [List.append_assoc, List.singleton_append, List.map_cons, List.map_nil, List.replicate_one, List.cons_append, List.nil_append] at ih h3 ⊢
   rw [show k + (t.sz + 1) = k + 1 + t.sz by omega, ih, h3, Nat.add_assoc]
 | .cat f, b, hw, ho, k, A, B, hx, hs => by
  cases b with
  | false => simp [Pt.wf] at hw
  | true =>
   rw [Pt.sz] at hs
   have hx1 : AtN x0 A.length (f.flat A.length) := AtN.left hx
   have hx2 := AtN.right hx
   rw [Pt.flat_len] at hx2
   have ih := run_ok K hK x0 hlen f false hw.2 ho (k + 1) A ([e0] ++ B) hx1 (by omega)
   have hAl : (A ++ (txAll f).map toB).length = A.length + f.sz := by rw [List.length_append, List.length_map, txAll_len]
   have hr := kids_roots f A.length hw.2
   have hn : x0[(A ++ (txAll f).map toB).length]? = some ⟨3, z4, (kids A.length f).map fun q => ((q.1 : Nat) : Int), 0, 0, noB⟩ := by
    have := hx2 0 _ rfl
    rw [hAl, ← hr]
    exact this
   have hkl : (kids A.length f).length ≤ f.sz := (kids_len f A.length).resolve_right (fun h => by rw [← h]; exact hw.2)
   have hkt := kids_at f A.length A (e0 :: B) hw.2 hx1 rfl (by omega)
   rw [← List.append_assoc] at hkt
   have h1 := node_step K k hK x0 hlen (A ++ (txAll f).map toB) B (kids A.length f) 3 z4 0 0 noB (by omega) hn hkt
   have hbb := (tx_len (.cat f) true hw).1 rfl
   have hc := (kids_cat f A.length).resolve_right (fun h => by rw [← h]; exact hw.2)
   have h2 := end_put K k x0 (A ++ (txAll f).map toB) B (by omega) 3 ((kids A.length f).map fun q => ((q.1 : Nat) : Int)) ((kids A.length f).map fun q => ((q.1 : Nat) : Int)) z4 0 0 noB ((kids A.length f).map fun q => toB (kidL 3 q.2.1 q.2.2)) (txt (.cat f)) ((kids A.length f).length : Int)
    (.inr (.inr (.inr (.inr (.inl ⟨rfl, (tx f).2.1, by rw [hc, List.map_map]; rfl, rfl, by rw [hc, List.length_map]; omega, by simp only [Pt.sz] at hbb; show (tx (.cat f)).1.length ≤ _; omega⟩)))))
   have h3 := h1.trans h2
   rw [Pt.sz, rep_split, txAll, List.map_append]
   rw [hAl] at h3
   simp only [List.append_assoc, List.singleton_append, List.map_cons, List.map_nil, List.replicate_one, List.cons_append, List.nil_append] at ih h3 ⊢
   rw [show k + (f.sz + 1) = k + 1 + f.sz by omega, ih, h3, Nat.add_assoc]
 | .alt f, b, hw, ho, k, A, B, hx, hs => by
  cases b with
  | false => simp [Pt.wf] at hw
  | true =>
   rw [Pt.sz] at hs
   have hx1 : AtN x0 A.length (f.flat A.length) := AtN.left hx
   have hx2 := AtN.right hx
   rw [Pt.flat_len] at hx2
   have ih := run_ok K hK x0 hlen f false hw.2 ho (k + 1) A ([e0] ++ B) hx1 (by omega)
   have hAl : (A ++ (txAll f).map toB).length = A.length + f.sz := by rw [List.length_append, List.length_map, txAll_len]
   have hr := kids_roots f A.length hw.2
   have hn : x0[(A ++ (txAll f).map toB).length]? = some ⟨4, z4, (kids A.length f).map fun q => ((q.1 : Nat) : Int), 0, 0, noB⟩ := by
    have := hx2 0 _ rfl
    rw [hAl, ← hr]
    exact this
   have hkl : (kids A.length f).length ≤ f.sz := (kids_len f A.length).resolve_right (fun h => by rw [← h]; exact hw.2)
   have hkt := kids_at f A.length A (e0 :: B) hw.2 hx1 rfl (by omega)
   rw [← List.append_assoc] at hkt
   have h1 := node_step K k hK x0 hlen (A ++ (txAll f).map toB) B (kids A.length f) 4 z4 0 0 noB (by omega) hn hkt
   have hbb := (tx_len (.alt f) true hw).1 rfl
   have hc := (kids_alt f A.length).resolve_right (fun h => by rw [← h]; exact hw.2)
   have h2 := end_put K k x0 (A ++ (txAll f).map toB) B (by omega) 4 ((kids A.length f).map fun q => ((q.1 : Nat) : Int)) ((kids A.length f).map fun q => ((q.1 : Nat) : Int)) z4 0 0 noB ((kids A.length f).map fun q => toB (kidL 4 q.2.1 q.2.2)) (txt (.alt f)) ((kids A.length f).length : Int)
    (.inr (.inr (.inr (.inr (.inr ⟨rfl, (tx f).2.2, by rw [hc, List.map_map]; rfl, rfl, by rw [hc, List.length_map]; omega, by simp only [Pt.sz] at hbb; show (tx (.alt f)).1.length ≤ _; omega⟩)))))
   have h3 := h1.trans h2
   rw [Pt.sz, rep_split, txAll, List.map_append]
   rw [hAl] at h3
   simp only [List.append_assoc, List.singleton_append, List.map_cons, List.map_nil, List.replicate_one, List.cons_append, List.nil_append] at ih h3 ⊢
   rw [show k + (f.sz + 1) = k + 1 + f.sz by omega, ih, h3, Nat.add_assoc]
 | .nil, b, hw, ho, k, A, B, hx, hs => rfl
 | .cons t f, b, hw, ho, k, A, B, hx, hs => by
  cases b with
  | true => simp [Pt.wf] at hw
  | false =>
   rw [Pt.sz] at hs
   have hx1 : AtN x0 A.length (t.flat A.length) := AtN.left hx
   have hx2 := AtN.right hx
   rw [Pt.flat_len] at hx2
   have hAl : (A ++ (txAll t).map toB).length = A.length + t.sz := by rw [List.length_append, List.length_map, txAll_len]
   have h1 := run_ok K hK x0 hlen t true hw.1 ho.1 (k + f.sz) A (List.replicate f.sz e0 ++ B) hx1 (by omega)
   have h2 := run_ok K hK x0 hlen f false hw.2 ho.2 k (A ++ (txAll t).map toB) B (by rw [hAl]; exact hx2) (by rw [hAl]; omega)
   rw [hAl] at h2
   rw [Pt.sz, rep_split, txAll, List.map_append]
   simp only [List.append_assoc] at h1 h2 ⊢
   rw [show k + (t.sz + f.sz) = k + f.sz + t.sz by omega, h1, h2, Nat.add_assoc]
theorem Tree_ok (K : Nat) (hK : 6000 ≤ K) {t : Pt} (hw : t.wf true) (hs : t.sz ≤ 1024) (ho : OkSets t) (hn : NodesOk K (t.flat 0)) : pT K (t.flat 0) = some (toB (txt t), true) := by
 have hlen := Pt.flat_len t 0
 have hp := sz_pos hw
 obtain ⟨l, hl⟩ := txAll_last hw
 have htl := txAll_len t
 have hrun := run_ok K (by omega) (t.flat 0) (by omega) t true hw ho (K - t.sz) [] [] (fun j x hj => by simpa using hj) (by simp only [List.length_nil]; omega)
 rw [pT, Right_ok K (by omega) _ hn, flat_right hw hs, bS]
 simp only [Bool.not_true, cF]
 rw [ck_pos (by omega), Int.toNat_natCast, ck_pos (roomy_iff.2 (by rw [hlen]; simp only [maxLen]; omega))]
 simp only [List.length_nil, List.nil_append, List.append_nil, Nat.zero_add] at hrun
 rw [show K - t.sz + t.sz = K by omega] at hrun
 rw [hlen] at hrun ⊢
 rw [show (0 : Int) = ((0 : Nat) : Int) from rfl]
 show pT_l0 K K _ _ _ (List.replicate t.sz e0) = _
 rw [hrun]
 obtain ⟨k, hk⟩ : ∃ k, K - t.sz = k + 1 := ⟨K - t.sz - 1, by omega⟩
 rw [hk, pT_l0]
 dsimp only
 have e1 : IntKind.i64.wrap (((t.flat 0).length : Int) - 1) = ((t.sz - 1 : Nat) : Int) := by rw [hlen, IntKind.wrap_i64]; omega
 rw [hl, List.length_append, List.length_singleton] at htl
 rw [decide_eq_false (by omega), cF, e1, getn (y := toB (txt t)) (by
  rw [hl, List.map_append, List.getElem?_append_right (by rw [List.length_map]; omega), List.length_map, show t.sz - 1 - l.length = 0 by omega]; rfl), bS]
end Go.Rv
namespace Go.Rv
def dgP (n : Nat) : Prop := numV (dg n) = (min n 4097 : Nat) ∧ (dg n).all isDig = true ∧ dg n ≠ []
instance (n : Nat) : Decidable (dgP n) := by unfold dgP; infer_instance
theorem dg_all2 : ∀ a : _root_.Fin 51, ∀ b : _root_.Fin 100, dgP (100 * a.val + b.val) := by decide +kernel
theorem dg_all {n : Nat} (hn : n < 5000) : numV (dg n) = (min n 4097 : Nat) ∧ (dg n).all isDig = true ∧ dg n ≠ [] := by
 have := dg_all2 ⟨n / 100, by omega⟩ ⟨n % 100, Nat.mod_lt _ (by decide)⟩
 simp only [Nat.div_add_mod] at this
 exact this
theorem take_dig {c : Nat} {r : List Nat} (hc : isDig c = false) : ∀ l : List Nat, l.all isDig = true → (l ++ c :: r).takeWhile isDig = l ∧ (l ++ c :: r).dropWhile isDig = c :: r
 | [], _ => by simp [hc]
 | x :: l, h => by
  simp only [List.all_cons, Bool.and_eq_true] at h
  obtain ⟨h1, h2⟩ := take_dig hc l h.2
  refine ⟨?_, ?_⟩
  ·rw [List.cons_append, List.takeWhile_cons, if_pos h.1, h1]
  ·rw [List.cons_append, List.dropWhile_cons, if_pos h.1, h2]
theorem dig_next {l : List Nat} (h : l.all isDig = true) (h0 : l ≠ []) (r : List Nat) : digNext (l ++ r) = true := by
 cases l with
 | nil => exact absurd rfl h0
 | cons x l =>
  simp only [List.all_cons, Bool.and_eq_true] at h
  exact h.1
theorem timesL_read {lo hi : Int} (h0 : 0 ≤ lo) (h1 : lo ≤ 4096) (h2 : hi = -1 ∨ (1 ≤ hi ∧ lo ≤ hi ∧ hi ≤ 4096)) (r : List Nat) : pTimes (timesL lo hi ++ r) = some (.ok (lo, hi) r) := by
 obtain ⟨a1, a2, a3⟩ := dg_all (n := lo.toNat) (by omega)
 have hlo : numV (dg lo.toNat) = lo := by rw [a1]; omega
 unfold timesL
 by_cases c1 : lo = 0 ∧ hi = -1
 ·rw [if_pos c1, c1.1, c1.2]; rfl
 rw [if_neg c1]
 by_cases c2 : lo = 1 ∧ hi = -1
 ·rw [if_pos c2, c2.1, c2.2]; rfl
 rw [if_neg c2]
 by_cases c3 : lo = 0 ∧ hi = 1
 ·rw [if_pos c3, c3.1, c3.2]; rfl
 rw [if_neg c3]
 have head : ∀ l : List Nat, digNext l = true → pTimes (123 :: l) = some (pBounds (123 :: l) l) := fun l hl => by
  rw [pTimes, if_neg (by decide), if_neg (by decide), if_neg (by decide), if_pos ⟨rfl, hl⟩]
 have fin : ∀ (w : List Nat) (a b : Int) (bad : Bool), bad = false → a ≤ 4096 → b ≤ 4096 → b ≠ 0 → ¬ (0 < b ∧ b < a) → pFin w a b bad (125 :: r) = .ok (a, b) r := fun w a b bad h1 h2 h3 h4 h5 => by
  rw [pFin, if_neg (by simp), if_neg]
  rintro (h | h | h | h | h)
  ·rw [h1] at h; cases h
  ·omega
  ·omega
  ·exact h4 h
  ·exact h5 h
 by_cases c4 : lo = hi
 ·rw [if_pos c4]
  simp only [List.cons_append, List.append_assoc, List.nil_append]
  obtain ⟨t1, t2⟩ := take_dig (c := 125) (r := r) (by decide) _ a2
  rw [head _ (dig_next a2 a3 _), pBounds, t2, t1, hlo]
  simp only
  rw [fin _ _ _ _ (decide_eq_false (by omega)) (by omega) (by omega) (by omega) (by omega)]
  rw [← c4]
 rw [if_neg c4]
 by_cases c5 : hi = -1
 ·rw [if_pos c5]
  simp only [List.cons_append, List.append_assoc, List.nil_append]
  obtain ⟨t1, t2⟩ := take_dig (c := 44) (r := 125 :: r) (by decide) _ a2
  rw [head _ (dig_next a2 a3 _), pBounds, t2, t1, hlo]
  simp only
  rw [if_neg (by simp [digNext, isDig]), fin _ _ _ _ (decide_eq_false (by omega)) (by omega) (by omega) (by omega) (by omega), c5]
 rw [if_neg c5]
 obtain ⟨b1, b2, b3⟩ := dg_all (n := hi.toNat) (by omega)
 have hhi : numV (dg hi.toNat) = hi := by rw [b1]; omega
 simp only [List.cons_append, List.append_assoc, List.nil_append]
 obtain ⟨t1, t2⟩ := take_dig (c := 44) (r := dg hi.toNat ++ 125 :: r) (by decide) _ a2
 obtain ⟨t3, t4⟩ := take_dig (c := 125) (r := r) (by decide) _ b2
 rw [head _ (dig_next a2 a3 _), pBounds, t2, t1, hlo]
 simp only
 rw [if_pos (dig_next b2 b3 _), t3, t4, hhi, fin _ _ _ _ (by rw [decide_eq_false (by omega), decide_eq_false (by omega)]; rfl) (by omega) (by omega) (by omega) (by omega)]
theorem timesL_lt {lo hi : Int} (h0 : 0 ≤ lo) (h1 : lo ≤ 4096) (h2 : hi ≤ 4096) : ∀ c ∈ timesL lo hi, c < 256 := by
 have hd : ∀ n : Nat, n < 5000 → ∀ c ∈ dg n, c < 256 := fun n hn c hc => by
  have := List.all_eq_true.1 (dg_all hn).2.1 c hc
  simp only [isDig, Bool.and_eq_true, decide_eq_true_eq] at this
  omega
 have a := hd lo.toNat (by omega)
 have b := hd hi.toNat (by omega)
 intro c hc
 unfold timesL at hc
 repeat' (split at hc)
 ·simp at hc; omega
 ·simp at hc; omega
 ·simp at hc; omega
 ·simp only [List.mem_cons, List.mem_append, List.not_mem_nil, or_false] at hc
  rcases hc with h | h | h
  ·omega
  ·exact a c h
  ·omega
 ·simp only [List.mem_cons, List.mem_append, List.not_mem_nil, or_false] at hc
  rcases hc with h | h | h | h
  ·omega
  ·exact a c h
  ·omega
  ·omega
 ·simp only [List.mem_cons, List.mem_append, List.not_mem_nil, or_false] at hc
  rcases hc with h | h | h | h | h
  ·omega
  ·exact a c h
  ·omega
  ·exact b c h
  ·omega
end Go.Rv
namespace Go.Rv
def dep : Pt → Nat × Nat × Nat
 | .empty => (0, 0, 0)
 | .set _ => (0, 0, 0)
 | .ref _ => (0, 0, 0)
 | .rep t _ _ => ((dep t).1 + (if wrN 5 (opN t) = true then 1 else 0), 0, 0)
 | .cat f => ((dep f).2.1, 0, 0)
 | .alt f => ((dep f).2.2, 0, 0)
 | .nil => (0, 0, 0)
 | .cons t f => (0, max ((dep t).1 + (if wrN 3 (opN t) = true then 1 else 0)) (dep f).2.1, max ((dep t).1 + (if wrN 4 (opN t) = true then 1 else 0)) (dep f).2.2)
def free (r : List Nat) : Prop := pTimes r = none
theorem pLeaf_ref {nm : List Nat} (h : nameOk nm = true) (r : List Nat) : pLeaf (123 :: (nm ++ 125 :: r)) = .ok (.ref nm) r := by
 have h' := h
 simp only [nameOk, Bool.and_eq_true, decide_eq_true_eq] at h
 have no125 : ∀ c ∈ nm, (c != 125) = true := fun c hc => by
  have := List.all_eq_true.1 h.1.1 c hc
  rw [bne_iff_ne]
  rintro rfl
  simp [letterN, isDig] at this
 have tw : ∀ l : List Nat, (∀ c ∈ l, (c != 125) = true) → (l ++ 125 :: r).takeWhile (fun c => c != 125) = l ∧ (l ++ 125 :: r).dropWhile (fun c => c != 125) = 125 :: r := by
  intro l
  induction l with
  | nil => intro _; simp
  | cons x l ih =>
   intro hl
   obtain ⟨h1, h2⟩ := ih fun c hc => hl c (by simp [hc])
   have hx := hl x (by simp)
   refine ⟨?_, ?_⟩
   ·rw [List.cons_append, List.takeWhile_cons, if_pos hx, h1]
   ·rw [List.cons_append, List.dropWhile_cons, if_pos hx, h2]
 obtain ⟨t1, t2⟩ := tw nm no125
 have hd : digNext (nm ++ 125 :: r) = false := by
  cases nm with
  | nil => simp at h
  | cons c l =>
   have hc : letterN c = true := h.1.2
   show isDig c = false
   simp only [letterN, Bool.or_eq_true, Bool.and_eq_true, decide_eq_true_eq, beq_iff_eq] at hc
   simp only [isDig, Bool.and_eq_false_iff, decide_eq_false_iff_not]
   omega
 rw [pLeaf, if_neg (by decide), if_pos ⟨rfl, hd⟩, pName, t2]
 simp only
 rw [t1, if_pos h']
def Good (l : List Nat) : Prop := stopN l = false ∧ pTimes l = none
theorem good_head {x : Nat} {t : List Nat} (h1 : x ≠ 124) (h2 : x ≠ 41) (h3 : x ≠ 42) (h4 : x ≠ 43) (h5 : x ≠ 63) (h6 : x ≠ 123) : Good (x :: t) := by
 refine ⟨?_, ?_⟩
 ·simp [stopN, h1, h2]
 ·rw [pTimes, if_neg h3, if_neg h4, if_neg h5, if_neg (fun h => h6 h.1)]
theorem good_pb (c : Nat) (r : List Nat) : Good (pbL c ++ r) := by
 obtain ⟨x, t, hx, _⟩ := pb_head c
 obtain ⟨_, h123, _, _, _, _, _, _, _, h124, h41, h42, h43, h63, _, _⟩ := pb_free hx
 rw [hx, List.cons_append]
 exact good_head h124 h41 h42 h43 h63 h123
theorem good_set (p : Nat → Bool) (r : List Nat) : Good (setL p ++ r) := by
 have rest : ∀ l : List Nat, Good ((if (st p).same (st fun c => !(c == 10)) = true then [46] else 91 :: (spL (spans0 l) ++ [93])) ++ r) := fun l => by
  split
  ·exact good_head (by decide) (by decide) (by decide) (by decide) (by decide) (by decide)
  ·exact good_head (by decide) (by decide) (by decide) (by decide) (by decide) (by decide)
 rw [setL]
 cases hq : els p with
 | nil => exact rest []
 | cons c l =>
  cases l with
  | nil => exact good_pb c r
  | cons d l => exact rest (c :: d :: l)
theorem wr35 (k : Nat) : wrN 5 k = wrN 3 k := by
 unfold wrN
 split
 ·rfl
 ·split <;> rfl
theorem good_kid : ∀ (t : Pt), t.wf true → ∀ r, Good (kidL 3 (opN t) (txt t) ++ r)
 | .empty, _, r => good_head (by decide) (by decide) (by decide) (by decide) (by decide) (by decide)
 | .set s, _, r => good_set (pr s) r
 | .ref nm, h, r => by
  have hn := h.1
  have e : kidL 3 (opN (.ref nm)) (txt (.ref nm)) ++ r = 123 :: (nm ++ 125 :: r) := by
   show 123 :: (nm ++ [125]) ++ r = _
   simp
  rw [e]
  refine ⟨rfl, ?_⟩
  have hd : digNext (nm ++ 125 :: r) = false := by
   simp only [nameOk, Bool.and_eq_true, decide_eq_true_eq] at hn
   cases nm with
   | nil => simp at hn
   | cons c l =>
    have hc : letterN c = true := hn.1.2
    show isDig c = false
    simp only [letterN, Bool.or_eq_true, Bool.and_eq_true, decide_eq_true_eq, beq_iff_eq] at hc
    simp only [isDig, Bool.and_eq_false_iff, decide_eq_false_iff_not]
    omega
  rw [pTimes, if_neg (by decide), if_neg (by decide), if_neg (by decide), if_neg (fun h => by rw [hd] at h; cases h.2)]
 | .rep t lo hi, h, r => by
  have h1 := good_kid t h.1 (timesL lo hi ++ r)
  have e : kidL 3 (opN (.rep t lo hi)) (txt (.rep t lo hi)) ++ r = kidL 3 (opN t) (txt t) ++ (timesL lo hi ++ r) := by
   show kidL 5 (opN t) (txt t) ++ timesL lo hi ++ r = _
   rw [List.append_assoc, kidL, kidL, wr35]
  rw [e]; exact h1
 | .cat f, _, r => good_head (by decide) (by decide) (by decide) (by decide) (by decide) (by decide)
 | .alt f, _, r => good_head (by decide) (by decide) (by decide) (by decide) (by decide) (by decide)
 | .nil, h, _ => h.elim
 | .cons _ _, h, _ => h.elim
def kdep (par : Nat) (t : Pt) : Nat := (dep t).1 + (if wrN par (opN t) = true then 1 else 0)
def bars (l : List (List Nat)) : List Nat := (l.map fun x => 124 :: x).flatten
theorem joinL_bars (x : List Nat) (l : List (List Nat)) : joinL (x :: l) = x ++ bars l := by
 induction l generalizing x with
 | nil => simp [joinL, bars]
 | cons y l ih => rw [joinL, ih]; simp [bars]
theorem wf_opN {t : Pt} (_ : t.wf true) (h1 : opN t ≠ 4) : wrN 4 (opN t) = false := by
 unfold wrN
 rw [if_neg h1]
 split <;> rfl
def ReadK (t : Pt) : Prop := ∀ n r res, kdep 3 t ≤ n → PR (.itemR t) r res → PR (.item n) (kidL 3 (opN t) (txt t) ++ r) res
def ReadW (t : Pt) : Prop := ∀ n r, (dep t).1 ≤ n → stopN r = true → opN t ≠ 4 → PR (.row n) (txt t ++ r) (.ok t r)
def ReadA (t : Pt) : Prop := ∀ n r, (dep t).1 ≤ n → stopN r = true → r.head? ≠ some 124 → PR (.alt n) (txt t ++ r) (.ok t r)
def ReadF (f : Pt) : Prop := ∀ n r, (dep f).2.1 ≤ n → stopN r = true → PR (.rowR n) ((tx f).2.1.flatten ++ r) (.ok f r)
def ReadB (f : Pt) : Prop := ∀ n r, (dep f).2.2 ≤ n → stopN r = true → r.head? ≠ some 124 → PR (.altR n) (bars (tx f).2.2 ++ r) (.ok f r)
theorem stop_free {r : List Nat} (h : stopN r = true) : pTimes r = none := by
 cases r with
 | nil => rfl
 | cons c r =>
  simp only [stopN, Bool.or_eq_true, beq_iff_eq] at h
  rcases h with rfl | rfl <;> rfl
theorem row_one {t : Pt} (hw : t.wf true) (hk : ReadK t) {n : Nat} {r : List Nat} (hn : kdep 3 t ≤ n) (hr : stopN r = true) : PR (.row n) (kidL 3 (opN t) (txt t) ++ r) (.ok t r) :=
 PR.row1 (f := .cons t .nil) (.rowR1 (good_kid t hw r).1 (hk n r _ hn (.itemR0 (stop_free hr))) (.rowR0 hr))
theorem item_wrap {t : Pt} (ha : ReadA t) (n : Nat) (r : List Nat) (res : Re Pt) (hn : (dep t).1 + 1 ≤ n) (hr : PR (.itemR t) r res) : PR (.item n) (40 :: (txt t ++ [41]) ++ r) res := by
 obtain ⟨n, rfl⟩ : ∃ m, n = m + 1 := ⟨n - 1, by omega⟩
 have h1 := ha n (41 :: r) (by omega) rfl (by simp)
 have h2 := PR.atomG h1
 have e : 40 :: (txt t ++ [41]) ++ r = 40 :: (txt t ++ 41 :: r) := by simp
 rw [e]
 exact .item1 h2 hr
theorem read_leaf {t : Pt} (hw : t.wf true) (h1 : kidL 3 (opN t) (txt t) = txt t) (h4 : opN t ≠ 4) (h0 : (dep t).1 = 0) (hat : ∀ n r, PR (.atom n) (txt t ++ r) (.ok t r)) : ReadK t ∧ ReadW t ∧ ReadA t := by
 have hk : ReadK t := fun n r res _ h => by
  rw [h1]; exact .item1 (hat n r) h
 have hwr : wrN 3 (opN t) = false ∨ txt t = 40 :: (txt t ++ [41]) := by
  cases h : wrN 3 (opN t) with
  | false => exact .inl rfl
  | true => right; rw [kidL, if_pos h] at h1; exact h1.symm
 have hkd : kdep 3 t = 0 := by
  rcases hwr with h | h
  ·rw [kdep, h, h0]; rfl
  ·have := congrArg List.length h
   simp at this
   omega
 have hrow : ReadW t := fun n r _ hr _ => by
  have := row_one hw hk (n := n) (by omega) hr
  rwa [h1] at this
 exact ⟨hk, hrow, fun n r hn hr hh => PR.alt1 (f := .nil) (hrow n r hn hr h4) (.altR0 hh)⟩
theorem read_all : ∀ (t : Pt), OkSets t → (t.wf true → ReadK t ∧ ReadW t ∧ ReadA t) ∧ (t.wf false → ReadF t ∧ ReadB t)
 | .empty, _ => ⟨fun hw => by
   have hrow : ReadW .empty := fun n r _ hr _ => PR.row1 (f := .nil) (.rowR0 hr)
   have ha : ReadA .empty := fun n r hn hr hh => PR.alt1 (f := .nil) (hrow n r hn hr (by decide)) (.altR0 hh)
   exact ⟨fun n r res hn h => item_wrap ha n r res hn h, hrow, ha⟩, fun h => h.elim⟩
 | .set s, ho => ⟨fun hw => read_leaf hw rfl (show (2 : Nat) ≠ 4 by decide) rfl (fun n r => by
   have e : s = st (pr s) := ho
   have := atom_set (pr s) (by rw [← e]; exact hw) n r
   rw [← e] at this
   exact this), fun h => h.elim⟩
 | .ref nm, _ => ⟨fun hw => read_leaf hw rfl (show (6 : Nat) ≠ 4 by decide) rfl (fun n r => by
   have e : txt (.ref nm) ++ r = 123 :: (nm ++ 125 :: r) := by
    show 123 :: (nm ++ [125]) ++ r = _
    simp
   rw [e]
   have := PR.atomL (n := n) (l := 123 :: (nm ++ 125 :: r)) (by simp) (by simp)
   rwa [pLeaf_ref hw.1] at this), fun h => h.elim⟩
 | .rep t lo hi, ho => ⟨fun hw => by
   obtain ⟨k1, _, _⟩ := (read_all t ho).1 hw.1
   have e0 : kidL 3 (opN (.rep t lo hi)) (txt (.rep t lo hi)) = txt (.rep t lo hi) := rfl
   have e : ∀ r, txt (.rep t lo hi) ++ r = kidL 3 (opN t) (txt t) ++ (timesL lo hi ++ r) := fun r => by
    show kidL 5 (opN t) (txt t) ++ timesL lo hi ++ r = _
    rw [List.append_assoc, kidL, kidL, wr35]
   have ed : (dep (.rep t lo hi)).1 = kdep 3 t := by
    show (dep t).1 + _ = _
    rw [kdep, wr35]
   have hk : ReadK (.rep t lo hi) := fun n r res hn h => by
    rw [e0, e]
    refine k1 n _ res (by rw [← ed]; exact hn) (.itemR1 (timesL_read hw.2.1 hw.2.2.1 hw.2.2.2 r) h)
   have hrow : ReadW (.rep t lo hi) := fun n r hn hr _ => row_one hw hk (n := n) hn hr
   exact ⟨hk, hrow, fun n r hn hr hh => PR.alt1 (f := .nil) (hrow n r hn hr (show (5 : Nat) ≠ 4 by decide)) (.altR0 hh)⟩, fun h => h.elim⟩
 | .cat f, ho => ⟨fun hw => by
   obtain ⟨k1, _⟩ := (read_all f ho).2 hw.2
   have hrow : ReadW (.cat f) := fun n r hn hr _ => by
    have h1 := PR.row1 (k1 n r hn hr)
    have : joinR f = .cat f := by
     have h2 := hw.1
     match f, h2 with
     | .cons a (.cons b g), _ => rfl
     | .cons a .nil, h2 => simp [Pt.len] at h2
     | .cons a .empty, h2 => simp [Pt.len] at h2
     | .cons a (.set _), h2 => simp [Pt.len] at h2
     | .cons a (.ref _), h2 => simp [Pt.len] at h2
     | .cons a (.rep _ _ _), h2 => simp [Pt.len] at h2
     | .cons a (.cat _), h2 => simp [Pt.len] at h2
     | .cons a (.alt _), h2 => simp [Pt.len] at h2
     | .nil, h2 => simp [Pt.len] at h2
     | .empty, h2 => simp [Pt.len] at h2
     | .set _, h2 => simp [Pt.len] at h2
     | .ref _, h2 => simp [Pt.len] at h2
     | .rep _ _ _, h2 => simp [Pt.len] at h2
     | .cat _, h2 => simp [Pt.len] at h2
     | .alt _, h2 => simp [Pt.len] at h2
    rw [this] at h1
    exact h1
   have ha : ReadA (.cat f) := fun n r hn hr hh => PR.alt1 (f := .nil) (hrow n r hn hr (show (3 : Nat) ≠ 4 by decide)) (.altR0 hh)
   exact ⟨fun n r res hn h => item_wrap ha n r res hn h, hrow, ha⟩, fun h => h.elim⟩
 | .alt f, ho => ⟨fun hw => by
   have ha : ReadA (.alt f) := by
    intro n r hn hr hh
    match f, hw, ho, hn with
    | .cons a g, hw, ho, hn =>
     obtain ⟨ka, wa, aa⟩ := (read_all a ho.1).1 hw.2.1
     obtain ⟨_, kb⟩ := (read_all g ho.2).2 hw.2.2
     have hn' : max (kdep 4 a) (dep g).2.2 ≤ n := hn
     have e : txt (.alt (.cons a g)) ++ r = kidL 4 (opN a) (txt a) ++ (bars (tx g).2.2 ++ r) := by
      show joinL (kidL 4 (opN a) (txt a) :: (tx g).2.2) ++ r = _
      rw [joinL_bars, List.append_assoc]
     rw [e]
     have hg : g ≠ .nil := by
      rintro rfl
      have := hw.1
      simp [Pt.len] at this
     have hj : joinA a g = .alt (.cons a g) := by
      unfold joinA
      split
      ·exact absurd rfl hg
      ·rfl
     have hst : stopN (bars (tx g).2.2 ++ r) = true := by
      cases hq : (tx g).2.2 with
      | nil => simpa [bars] using hr
      | cons x l => rfl
     have h1 : PR (.row n) (kidL 4 (opN a) (txt a) ++ (bars (tx g).2.2 ++ r)) (.ok a (bars (tx g).2.2 ++ r)) := by
      by_cases h4 : opN a = 4
      ·have e3 : kidL 4 (opN a) (txt a) = kidL 3 (opN a) (txt a) := by rw [h4]; rfl
       have d3 : kdep 4 a = kdep 3 a := by unfold kdep; rw [h4]; rfl
       rw [e3]
       exact row_one hw.2.1 ka (by omega) hst
      ·have hwn := wf_opN hw.2.1 h4
       rw [kidL, hwn, if_neg (by decide)]
       rw [kdep, hwn] at hn'
       exact wa n _ (by simp at hn'; omega) hst h4
     have := PR.alt1 h1 (kb n r (by omega) hr hh)
     rwa [hj] at this
   exact ⟨fun n r res hn h => item_wrap ha n r res hn h, fun n r _ _ h4 => absurd rfl h4, ha⟩, fun h => h.elim⟩
 | .nil, _ => ⟨fun h => h.elim, fun _ => ⟨fun n r _ hr => .rowR0 hr, fun n r _ _ hh => .altR0 hh⟩⟩
 | .cons t f, ho => ⟨fun h => h.elim, fun hw => by
   obtain ⟨ka, wa, aa⟩ := (read_all t ho.1).1 hw.1
   obtain ⟨kf, kb⟩ := (read_all f ho.2).2 hw.2
   refine ⟨fun n r hn hr => ?_, fun n r hn hr hh => ?_⟩
   ·have hn' : max (kdep 3 t) (dep f).2.1 ≤ n := hn
    have e : (tx (.cons t f)).2.1.flatten ++ r = kidL 3 (opN t) (txt t) ++ ((tx f).2.1.flatten ++ r) := by
     show (kidL 3 (opN t) (txt t) :: (tx f).2.1).flatten ++ r = _
     rw [List.flatten_cons, List.append_assoc]
    rw [e]
    have hfree : pTimes ((tx f).2.1.flatten ++ r) = none := by
     match f, hw.2 with
     | .nil, _ => exact stop_free hr
     | .cons t2 f2, hw2 =>
      have := (good_kid t2 hw2.1 ((tx f2).2.1.flatten ++ r)).2
      have e2 : (tx (.cons t2 f2)).2.1.flatten ++ r = kidL 3 (opN t2) (txt t2) ++ ((tx f2).2.1.flatten ++ r) := by
       show (kidL 3 (opN t2) (txt t2) :: (tx f2).2.1).flatten ++ r = _
       rw [List.flatten_cons, List.append_assoc]
      rw [e2]; exact this
    exact .rowR1 (good_kid t hw.1 _).1 (ka n _ _ (by omega) (.itemR0 hfree)) (kf n r (by omega) hr)
   ·have hn' : max (kdep 4 t) (dep f).2.2 ≤ n := hn
    have e : bars (tx (.cons t f)).2.2 ++ r = 124 :: (kidL 4 (opN t) (txt t) ++ (bars (tx f).2.2 ++ r)) := by
     show bars (kidL 4 (opN t) (txt t) :: (tx f).2.2) ++ r = _
     simp [bars]
    rw [e]
    have hst : stopN (bars (tx f).2.2 ++ r) = true := by
     cases hq : (tx f).2.2 with
     | nil => simpa [bars] using hr
     | cons x l => rfl
    have h1 : PR (.row n) (kidL 4 (opN t) (txt t) ++ (bars (tx f).2.2 ++ r)) (.ok t (bars (tx f).2.2 ++ r)) := by
     by_cases h4 : opN t = 4
     ·have e3 : kidL 4 (opN t) (txt t) = kidL 3 (opN t) (txt t) := by rw [h4]; rfl
      have d3 : kdep 4 t = kdep 3 t := by unfold kdep; rw [h4]; rfl
      rw [e3]
      exact row_one hw.1 ka (by omega) hst
     ·have hwn := wf_opN hw.1 h4
      rw [kidL, hwn, if_neg (by decide)]
      rw [kdep, hwn] at hn'
      exact wa n _ (by simp at hn'; omega) hst h4
    exact .altR1 h1 (kb n r (by omega) hr hh)⟩
theorem read_back {t : Pt} (hw : t.wf true) (ho : OkSets t) (hd : (dep t).1 ≤ 64) : PR (.alt 64) (txt t) (.ok t []) := by
 have := ((read_all t ho).1 hw).2.2 64 [] hd rfl (by simp)
 rwa [List.append_nil] at this
end Go.Rv
namespace Go.Rv
theorem pr_st (p : Nat → Bool) : st p = st (pr (st p)) := by
 refine st_congr fun b hb => ?_
 rw [pr, st_get p (by omega), Int.toNat_natCast, wdi_bit p _ _ (Nat.mod_lt _ (by decide)), Nat.div_add_mod]
theorem pLeaf_shape {l r : List Nat} {t : Pt} (h : pLeaf l = .ok t r) : OkSets t ∧ kdep 3 t = 0 := by
 unfold pLeaf at h
 split at h
 ·cases h
 ·split at h
  ·cases h; exact ⟨pr_st _, rfl⟩
  split at h
  ·unfold pName at h
   split at h
   ·cases h
   ·split at h
    ·cases h; exact ⟨trivial, rfl⟩
    ·cases h
  split at h
  ·cases h
  split at h
  ·cases h
  split at h
  ·cases h; exact ⟨pr_st _, rfl⟩
  ·cases h
theorem kdep_43 (t : Pt) : kdep 4 t ≤ kdep 3 t := by
 have h : wrN 4 (opN t) = true → wrN 3 (opN t) = true := by
  unfold wrN
  split
  ·exact fun h => h
  ·split
   ·intro h; cases h
   ·exact fun h => h
 unfold kdep
 split
 ·next h1 => rw [if_pos (h h1)]; exact Nat.le_refl _
 ·omega
theorem kdep_le (par : Nat) (t : Pt) : (dep t).1 ≤ kdep par t ∧ kdep par t ≤ (dep t).1 + 1 := by
 unfold kdep; split <;> omega
def DepG : Goal → Re Pt → Prop
 | .alt n, .ok t _ => OkSets t ∧ (dep t).1 ≤ n
 | .altR n, .ok f _ => OkSets f ∧ (dep f).2.2 ≤ n
 | .row n, .ok t _ => OkSets t ∧ kdep 4 t ≤ n
 | .rowR n, .ok f _ => OkSets f ∧ (dep f).2.1 ≤ n
 | .item n, .ok t _ => OkSets t ∧ kdep 3 t ≤ n
 | .itemR t0, .ok t _ => (OkSets t0 → OkSets t) ∧ kdep 3 t = kdep 3 t0
 | .atom n, .ok t _ => OkSets t ∧ kdep 3 t ≤ n
 | _, _ => True
theorem PR.dep {g : Goal} {l : List Nat} {res : Re Pt} (h : PR g l res) : DepG g res := by
 induction h with
 | @alt1 n l t r f r' _ _ ih1 ih2 =>
  obtain ⟨o1, d1⟩ := ih1
  obtain ⟨o2, d2⟩ := ih2
  have := kdep_le 4 t
  unfold joinA
  split
  ·exact ⟨o1, by omega⟩
  ·refine ⟨⟨o1, o2⟩, ?_⟩
   show max (kdep 4 t) (Go.Rv.dep _).2.2 ≤ n
   omega
 | altR0 => exact ⟨trivial, Nat.zero_le _⟩
 | @altR1 n l t r f r' _ _ ih1 ih2 =>
  obtain ⟨o1, d1⟩ := ih1
  obtain ⟨o2, d2⟩ := ih2
  refine ⟨⟨o1, o2⟩, ?_⟩
  show max (kdep 4 t) (Go.Rv.dep f).2.2 ≤ n
  omega
 | @row1 n l f r _ ih =>
  obtain ⟨o1, d1⟩ := ih
  unfold joinR
  split
  ·exact ⟨trivial, Nat.zero_le _⟩
  ·next t _ =>
   have h : max (kdep 3 t) 0 ≤ n := d1
   have := kdep_43 t
   exact ⟨o1.1, by omega⟩
  ·exact ⟨o1, d1⟩
 | rowR0 => exact ⟨trivial, Nat.zero_le _⟩
 | @rowR1 n l t r f r' _ _ _ ih1 ih2 =>
  obtain ⟨o1, d1⟩ := ih1
  obtain ⟨o2, d2⟩ := ih2
  refine ⟨⟨o1, o2⟩, ?_⟩
  show max (kdep 3 t) (Go.Rv.dep f).2.1 ≤ n
  omega
 | @item1 n l t r res _ _ ih1 ih2 =>
  cases res with
  | err => trivial
  | ok t' r' =>
   obtain ⟨o1, d1⟩ := ih1
   obtain ⟨o2, d2⟩ := ih2
   exact ⟨o2 o1, by omega⟩
 | itemR0 => exact ⟨fun h => h, rfl⟩
 | @itemR1 t l lo hi r res _ _ ih =>
  cases res with
  | err => trivial
  | ok t' r' =>
   obtain ⟨o1, d1⟩ := ih
   refine ⟨fun h => o1 h, ?_⟩
   rw [d1]
   show (Go.Rv.dep t).1 + (if wrN 5 (opN t) = true then 1 else 0) + 0 = _
   rw [kdep, wr35]; rfl
 | @atomG n l t c r _ ih =>
  obtain ⟨o1, d1⟩ := ih
  have := kdep_le 3 t
  exact ⟨o1, by omega⟩
 | @atomC1 n l p c r _ _ _ => exact ⟨pr_st _, Nat.zero_le _⟩
 | @atomL n l _ _ =>
  cases hq : pLeaf l with
  | err => trivial
  | ok t r =>
   obtain ⟨o1, d1⟩ := pLeaf_shape hq
   exact ⟨o1, by omega⟩
 | _ => trivial
theorem txt_lt : ∀ (t : Pt), (t.wf true → ∀ c ∈ txt t, c < 256) ∧ (t.wf false → (∀ c ∈ (tx t).2.1.flatten, c < 256) ∧ ∀ c ∈ joinL (tx t).2.2, c < 256) := by
 have kid : ∀ (par kid : Nat) (s : List Nat), (∀ c ∈ s, c < 256) → ∀ c ∈ kidL par kid s, c < 256 := by
  intro par kid s h c hc
  unfold kidL at hc
  split at hc
  ·simp only [List.mem_cons, List.mem_append, List.not_mem_nil, or_false] at hc
   rcases hc with rfl | hc | rfl
   ·decide
   ·exact h c hc
   ·decide
  ·exact h c hc
 intro t
 induction t with
 | empty => exact ⟨fun _ c hc => by simp [txt, tx] at hc, fun h => h.elim⟩
 | set s => exact ⟨fun _ => setL_lt (pr s), fun h => h.elim⟩
 | ref nm =>
  refine ⟨fun h c hc => ?_, fun h => h.elim⟩
  have hc' : c ∈ 123 :: (nm ++ [125]) := hc
  simp only [List.mem_cons, List.mem_append, List.not_mem_nil, or_false] at hc'
  rcases hc' with rfl | hc' | rfl
  ·decide
  ·exact h.2 c hc'
  ·decide
 | rep t lo hi ih =>
  refine ⟨fun h c hc => ?_, fun h => h.elim⟩
  have hc' : c ∈ kidL 5 (opN t) (txt t) ++ timesL lo hi := hc
  rcases List.mem_append.1 hc' with hc' | hc'
  ·exact kid 5 _ _ (ih.1 h.1) c hc'
  ·have h2 := h.2
   exact timesL_lt h2.1 h2.2.1 (by omega) c hc'
 | cat f ih => exact ⟨fun h => (ih.2 h.2).1, fun h => h.elim⟩
 | alt f ih => exact ⟨fun h => (ih.2 h.2).2, fun h => h.elim⟩
 | nil => exact ⟨fun h => h.elim, fun _ => ⟨fun c hc => by simp [tx] at hc, fun c hc => by simp [tx, joinL] at hc⟩⟩
 | cons t f iht ihf =>
  refine ⟨fun h => h.elim, fun h => ⟨fun c hc => ?_, fun c hc => ?_⟩⟩
  ·have hc' : c ∈ (kidL 3 (opN t) (txt t) :: (tx f).2.1).flatten := hc
   rw [List.flatten_cons] at hc'
   rcases List.mem_append.1 hc' with hc' | hc'
   ·exact kid 3 _ _ (iht.1 h.1) c hc'
   ·exact (ihf.2 h.2).1 c hc'
  ·have hc' : c ∈ joinL (kidL 4 (opN t) (txt t) :: (tx f).2.2) := hc
   have hk := kid 4 (opN t) _ (iht.1 h.1)
   have hf := (ihf.2 h.2).2
   cases hq : (tx f).2.2 with
   | nil => rw [hq] at hc'; exact hk c hc'
   | cons y r =>
    rw [hq] at hc' hf
    rw [joinL] at hc'
    rcases List.mem_append.1 hc' with hc' | hc'
    ·exact hk c hc'
    ·rcases List.mem_cons.1 hc' with rfl | hc'
     ·decide
     ·exact hf c hc'
end Go.Rv
namespace Go.Rv
theorem NodesOk.mono {K K' : Nat} {l : List aNd} (h : NodesOk K l) (hk : K ≤ K') : NodesOk K' l := fun n hn => by
 obtain ⟨⟨h1, h2⟩, h3, h4⟩ := h n hn
 exact ⟨⟨by omega, h2⟩, by omega, h4⟩
theorem Tree_no (K : Nat) (hK : 1100 ≤ K) {l : List aNd} (hn : NodesOk K l) (h : rightS l = false) : pT K l = some (⟨#[]⟩, false) := by
 rw [pT, Right_ok K hK l hn, h, bS]; rfl
theorem Parse_txt (K : Nat) (hK : 6000 ≤ K) {t : Pt} (hw : t.wf true) (ho : OkSets t) (hs : t.sz ≤ 1024) (hd : (dep t).1 ≤ 64) (hl : (txt t).length ≤ 1024) : sy_Parse K (toB (txt t)) = some (t.flat 0, 0, 0) := by
 have h := read_back hw ho hd
 rw [← bs_toB ((txt_lt t).1 hw)] at h
 rw [Parse_ok K hK (by rw [toB_size]; exact hl) h, out_ok _ (by omega)]
theorem same_self2 (K : Nat) (hK : 6000 ≤ K) {l : List aNd} (hl : l.length ≤ 1100) (hn : NodesOk K l) : r4_Same K l l = some true := by
 rw [Same_ok K l l ⟨by omega, by omega⟩ (fun n h => (hn n h).2), decide_eq_true rfl]
theorem Once_plain (s : ByteArray) : ∃ K, l5_PrintOnce K s = some true := by
 refine ⟨7000, ?_⟩
 have e := minIf 300 s.size
 rw [show ((300 : Nat) : Int) = (300 : Int) from rfl] at e
 rw [l5_PrintOnce, shown_7000, bS, e, Int.toNat_natCast, ck_pos ⟨by omega, by omega, by omega⟩]
 have hsz : (s.extract 0 (min 300 s.size)).size ≤ 300 := by
  rw [← bs_len, bs_extract]
  simp; omega
 generalize s.extract 0 (min 300 s.size) = w at *
 obtain ⟨res, hp⟩ := total 64 (bs w)
 rw [Parse_ok 7000 (by decide) (by omega) hp, bS]
 have hsf := hp.suf
 cases res with
 | err k x =>
  have hk := hsf.2.1
  have e0 : ((k : Int) != 0) = true := by simp; omega
  rw [out_err]
  simp only [e0, cT]
 | ok u r =>
  cases r with
  | cons c r =>
   rw [out_more]
   simp only [show ((41 : Int) != 0) = true from rfl, cT]
  | nil =>
   by_cases hbig : 1024 < u.sz
   ·rw [out_big _ hbig]
    simp only [show ((3 : Int) != 0) = true from rfl, cT]
   ·have hwf : u.wf true := hp.wf (fun c hc => bs_lt hc)
    obtain ⟨ho, hd⟩ : OkSets u ∧ (dep u).1 ≤ 64 := hp.dep
    have hn := flat_nodes 7000 (by decide) u true hwf (by omega) 0
    rw [out_ok _ hbig]
    simp only [bne_self_eq_false, cF]
    rw [Tree_ok 7000 (by decide) hwf (by omega) ho hn, bS]
    simp only [cT]
    by_cases hlong : 1024 < (txt u).length
    ·rw [Parse_long 7000 (by rw [toB_size]; exact hlong), bS]
     simp only
     rw [Tree_no 7000 (by decide) (l := []) (fun n hn => by cases hn) rfl, bS, decide_eq_true (by rw [toB_size]; omega), cT]
     rfl
    ·rw [Parse_txt 7000 (by decide) hwf ho (by omega) hd (by omega), bS]
     simp only
     rw [Tree_ok 7000 (by decide) hwf (by omega) ho hn, bS, decide_eq_false (by rw [toB_size]; omega), cF]
     simp only [show ((0 : Int) == 0) = true from rfl, cT, beq_self_eq_true]
     rw [same_self2 7000 (by decide) (by rw [Pt.flat_len]; omega) hn, bS]
end Go.Rv

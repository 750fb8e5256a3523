/- The parser, plainly: how it reads its bytes. -/
/- The parser, plainly, 2: numbers, bounds, names, classes. -/
/- The parser, plainly, 3: bounds, names, classes, atoms that are no groups. -/
/- The parser, plainly, 4: names, classes. -/
/- The parser, plainly, 5: it answers what the text is read as. -/
/- The parser, plainly, 6: it answers what the text is read as (the induction). -/
/- Patterns, plainly: Parse; trees, and whether nodes are one. -/
import Derived.Test.YtocjhbbldeankaaDoorRpSH
import Derived.Test.YtocjhbbldeankaaDoorRgM
import Derived.KernelRfl
namespace Go.Rv
theorem w64s {n : Nat} (h : n < 9223372036854775807) : IntKind.i64.wrap ((n : Int) + 1) = ((n + 1 : Nat) : Int) := by rw [w64 (by omega) (by omega)]; omega
def At (s : ByteArray) (i : Nat) (l : List Nat) : Prop := i ≤ s.size ∧ (bs s).drop i = l ∧ s.size ≤ 1100
theorem At.len {s : ByteArray} {i : Nat} {l : List Nat} (h : At s i l) : i + l.length = s.size := by
 have := congrArg List.length h.2.1
 rw [List.length_drop, bs_len] at this
 have := h.1
 omega
theorem At.small {s : ByteArray} {i : Nat} {l : List Nat} (h : At s i l) : s.size ≤ 1100 := h.2.2
theorem At.nil {s : ByteArray} {i : Nat} (h : At s i []) : i = s.size := by have := h.len; simpa using this
theorem At.tail {s : ByteArray} {i c : Nat} {l : List Nat} (h : At s i (c :: l)) : At s (i + 1) l := by
 have h1 := h.len
 simp only [List.length_cons] at h1
 refine ⟨by omega, ?_, h.2.2⟩
 rw [← List.drop_drop, h.2.1, List.drop_one, List.tail_cons]
theorem At.get {s : ByteArray} {i c : Nat} {l : List Nat} (h : At s i (c :: l)) : (bs s)[i]? = some c := by
 have := congrArg (fun x => x[0]?) h.2.1
 simpa using this
theorem At.byte {s : ByteArray} {i c : Nat} {l : List Nat} (h : At s i (c :: l)) : bt s (i : Int) = c := by
 rw [bt_bs, h.get]; rfl
theorem At.lt {s : ByteArray} {i c : Nat} {l : List Nat} (h : At s i (c :: l)) : i < s.size := by
 have := h.len
 simp only [List.length_cons] at this; omega
theorem At.mem {s : ByteArray} {i : Nat} {l : List Nat} (h : At s i l) : ∀ c ∈ l, c < 256 := fun c hc => by
 rw [← h.2.1] at hc
 exact bs_lt (List.mem_of_mem_drop hc)
theorem At.c256 {s : ByteArray} {i c : Nat} {l : List Nat} (h : At s i (c :: l)) : c < 256 := h.mem c (List.mem_cons_self ..)
theorem At.drop {s : ByteArray} {i : Nat} {l : List Nat} (h : At s i l) (n : Nat) (hn : n ≤ l.length) : At s (i + n) (l.drop n) := by
 have := h.len
 exact ⟨by omega, by rw [← h.2.1, List.drop_drop], h.2.2⟩
theorem At.suffix {s : ByteArray} {i : Nat} {l r : List Nat} (h : At s i l) (hr : r <:+ l) : At s (s.size - r.length) r := by
 obtain ⟨p, rfl⟩ := hr
 have h1 := h.len
 rw [List.length_append] at h1
 have := h.drop p.length (by simp)
 rw [List.drop_left] at this
 rwa [show i + p.length = s.size - r.length by omega] at this
theorem at_end (s : ByteArray) (i : Nat) (l : List Nat) (h : At s i l) : i = s.size - l.length := by have := h.len; omega
section
variable (K : Nat) {s : ByteArray} {i : Nat} {w e : Int} {ns : List aNd} {d : Int}
abbrev pst (s : ByteArray) (i w e : Int) (ns : List aNd) (d : Int) : syp := ⟨⟨s, i, w, e⟩, ns, d⟩
theorem ge_false {i n : Nat} (h : i < n) : decide ((i : Int) ≥ (n : Int)) = false := by simp; omega
theorem ge_true {i n : Nat} (h : n ≤ i) : decide ((i : Int) ≥ (n : Int)) = true := by simp; omega
theorem peek_cons {c : Nat} {l : List Nat} (h : At s i (c :: l)) : syr_peek K (pst s i w 0 ns d) = some ((c : Int), true) := by
 have h1 := h.lt
 rw [syr_peek]
 simp only [bne_self_eq_false, cF, ge_false h1]
 rw [ck_pos ⟨by omega, by omega⟩, h.byte]
theorem peek_nil (h : At s i []) : syr_peek K (pst s i w 0 ns d) = some (0, false) := by
 have h1 := h.nil
 rw [syr_peek]
 simp only [bne_self_eq_false, cF, ge_true (show s.size ≤ i by omega), cT, syr_peek_j0]
theorem peek_bad {i : Int} (he : e ≠ 0) : syr_peek K (pst s i w e ns d) = some (0, false) := by
 rw [syr_peek]
 have : (e != 0) = true := by simpa using he
 simp only [this, cT, syr_peek_j0]
theorem fail_ok {i : Int} (k x : Int) : syr_fail K (pst s i w 0 ns d) k x = some (pst s i x k ns d) := by
 rw [syr_fail]
 simp only [beq_self_eq_true, cT]
theorem fail_bad {i : Int} (he : e ≠ 0) (k x : Int) : syr_fail K (pst s i w e ns d) k x = some (pst s i w e ns d) := by
 rw [syr_fail]
 have : (e == 0) = false := by simpa using he
 simp only [this, cF]
theorem next_cons {c : Nat} {l : List Nat} (h : At s i (c :: l)) : syr_next K (pst s i w 0 ns d) = some ((c : Int), pst s ((i + 1 : Nat) : Int) w 0 ns d) := by
 have := h.lt
 have := h.small
 rw [syr_next, peek_cons K h, bS]
 simp only [Bool.not_true, cF, w64s (n := i) (by omega)]
theorem next_nil (h : At s i []) : syr_next K (pst s i w 0 ns d) = some (0, pst s i (s.size : Int) 40 ns d) := by
 rw [syr_next, peek_nil K h, bS]
 simp only [Bool.not_false, cT, fail_ok, bS]
theorem next_bad {i : Int} (he : e ≠ 0) : syr_next K (pst s i w e ns d) = some (0, pst s i w e ns d) := by
 rw [syr_next, peek_bad K he, bS]
 simp only [Bool.not_false, cT, fail_bad K he, bS]
theorem is_eq {l : List Nat} (h : At s i l) (c : Nat) : syr_is K (pst s i w 0 ns d) (c : Int) = some (decide (l.head? = some c)) := by
 rw [syr_is]
 cases l with
 | nil => rw [peek_nil K h]; simp
 | cons b l =>
  rw [peek_cons K h]
  simp only [bS, cT, List.head?_cons, Option.some.injEq]
  congr 1
  rw [Bool.eq_iff_iff, beq_iff_eq, decide_eq_true_eq]
  omega
theorem is_bad {i : Int} (he : e ≠ 0) (c : Int) : syr_is K (pst s i w e ns d) c = some false := by
 rw [syr_is, peek_bad K he]; rfl
theorem skip_yes {c : Nat} {l : List Nat} (h : At s i (c :: l)) : syr_skip K (pst s i w 0 ns d) (c : Int) = some (true, pst s ((i + 1 : Nat) : Int) w 0 ns d) := by
 have := h.lt
 have := h.small
 rw [syr_skip, is_eq K h]
 simp only [bS, List.head?_cons, decide_true, Bool.not_true, cF, w64s (n := i) (by omega)]
theorem skip_no {l : List Nat} (h : At s i l) {c : Nat} (hc : l.head? ≠ some c) : syr_skip K (pst s i w 0 ns d) (c : Int) = some (false, pst s i w 0 ns d) := by
 rw [syr_skip, is_eq K h, decide_eq_false hc]
 simp only [bS, Bool.not_false, cT]
theorem skip_bad {i : Int} (he : e ≠ 0) (c : Int) : syr_skip K (pst s i w e ns d) c = some (false, pst s i w e ns d) := by
 rw [syr_skip, is_bad K he]
 simp only [bS, Bool.not_false, cT]
theorem sdigit (c : Nat) : sy_digit K (c : Int) = some (isDig c) := by
 rw [sy_digit, isDig]
 by_cases h : 48 ≤ c
 ·have : decide ((c : Int) ≥ 48) = true := by simp; omega
  rw [this, cT, decide_eq_true h]
  congr 1
  rw [Bool.true_and, Bool.eq_iff_iff, decide_eq_true_eq, decide_eq_true_eq]
  omega
 ·have : decide ((c : Int) ≥ 48) = false := by simp; omega
  rw [this, cF, decide_eq_false h, Bool.false_and]
theorem dig_at {l : List Nat} (h : At s i l) (a : Nat) (ha : a ≤ 1) : syr_digit K (pst s i w 0 ns d) (a : Int) = some (digNext (l.drop a)) := by
 have h1 := h.len
 have h2 := h.small
 rw [syr_digit]
 simp only [beq_self_eq_true, cT]
 have e1 : IntKind.i64.wrap ((i : Int) + (a : Int)) = ((i + a : Nat) : Int) := by rw [w64 (by omega) (by omega)]; omega
 rw [e1]
 by_cases hl : a < l.length
 ·have hd := h.drop a (by omega)
  obtain ⟨c, r, hc⟩ : ∃ c r, l.drop a = c :: r := by
   cases hq : l.drop a with
   | nil => rw [List.drop_eq_nil_iff] at hq; omega
   | cons c r => exact ⟨c, r, rfl⟩
  rw [hc] at hd ⊢
  have e2 : decide (((i + a : Nat) : Int) < (s.size : Int)) = true := by simp; omega
  rw [e2, cT, ck_pos ⟨by omega, by omega⟩, hd.byte, sdigit, bS, digNext]
 ·have e2 : decide (((i + a : Nat) : Int) < (s.size : Int)) = false := by simp; omega
  rw [e2, cF, List.drop_eq_nil_of_le (by omega), digNext]
theorem dig0 {l : List Nat} (h : At s i l) : syr_digit K (pst s i w 0 ns d) 0 = some (digNext l) := dig_at K h 0 (by omega)
theorem dig1 {l : List Nat} (h : At s i l) : syr_digit K (pst s i w 0 ns d) 1 = some (digNext (l.drop 1)) := dig_at K h 1 (by omega)
end
/- Bytes among some. -/
theorem idx_spec : ∀ c : _root_.Fin 256, decide (idxS (⟨#[124, 42, 43, 63, 123, 125, 40, 41, 91, 93, 46, 92, 47, 36, 94, 34]⟩ : ByteArray) (c.val : Int) ≥ 0) = specN c.val := by decide +kernel
theorem idx_mark : ∀ c : _root_.Fin 256, decide (idxS (⟨#[93, 45, 94]⟩ : ByteArray) (c.val : Int) ≥ 0) = markN c.val := by decide +kernel
theorem idx_hex : ∀ c : _root_.Fin 256, (IntKind.u8.wrap (if (0 : Int) > idxS (⟨#[48, 49, 50, 51, 52, 53, 54, 55, 56, 57, 97, 98, 99, 100, 101, 102]⟩ : ByteArray) (c.val : Int) then (0 : Int) else idxS (⟨#[48, 49, 50, 51, 52, 53, 54, 55, 56, 57, 97, 98, 99, 100, 101, 102]⟩ : ByteArray) (c.val : Int)), decide (idxS (⟨#[48, 49, 50, 51, 52, 53, 54, 55, 56, 57, 97, 98, 99, 100, 101, 102]⟩ : ByteArray) (c.val : Int) ≥ 0)) = ((((hexN c.val).getD 0 : Nat) : Int), (hexN c.val).isSome) := by decide +kernel
theorem snibble (K c : Nat) (h : c < 256) : sy_nibble K (c : Int) = some ((((hexN c).getD 0 : Nat) : Int), (hexN c).isSome) := by
 rw [sy_nibble, strings_IndexByte, stringslite_IndexByte]
 simp only [bS]
 exact congrArg some (idx_hex ⟨c, h⟩)
theorem sspec (K c : Nat) (h : c < 256) : (strings_IndexByte K (⟨#[124, 42, 43, 63, 123, 125, 40, 41, 91, 93, 46, 92, 47, 36, 94, 34]⟩ : ByteArray) (c : Int)) = some (idxS (⟨#[124, 42, 43, 63, 123, 125, 40, 41, 91, 93, 46, 92, 47, 36, 94, 34]⟩ : ByteArray) (c : Int)) ∧ decide (idxS (⟨#[124, 42, 43, 63, 123, 125, 40, 41, 91, 93, 46, 92, 47, 36, 94, 34]⟩ : ByteArray) (c : Int) ≥ 0) = specN c := by
 refine ⟨?_, idx_spec ⟨c, h⟩⟩
 rw [strings_IndexByte, stringslite_IndexByte]
 simp only [bS]
theorem smark (K c : Nat) (h : c < 256) : (strings_IndexByte K (⟨#[93, 45, 94]⟩ : ByteArray) (c : Int)) = some (idxS (⟨#[93, 45, 94]⟩ : ByteArray) (c : Int)) ∧ decide (idxS (⟨#[93, 45, 94]⟩ : ByteArray) (c : Int) ≥ 0) = markN c := by
 refine ⟨?_, idx_mark ⟨c, h⟩⟩
 rw [strings_IndexByte, stringslite_IndexByte]
 simp only [bS]
/- A byte, or an escape. -/
theorem or_hex : ∀ a b : _root_.Fin 16, bits .or .u8 (IntKind.u8.wrap ((a.val : Int) * 2 ^ min (Int.toNat (4 : Int)) IntKind.u8.bits)) (b.val : Int) = ((16 * a.val + b.val : Nat) : Int) := by decide +kernel
theorem hexN_lt {c a : Nat} (h : hexN c = some a) : a < 16 := by
 unfold hexN at h
 split at h
 ·cases h; omega
 ·split at h
  ·cases h; omega
  ·cases h
def RdN (s : ByteArray) (ns : List aNd) (d w : Int) (l : List Nat) (i : Nat) (f : Option (Int × syp)) : Re Nat → Prop
 | .ok b r => f = some ((b : Int), pst s ((s.size - r.length : Nat) : Int) w 0 ns d) ∧ b < 256 ∧ r <:+ l
 | .err k x => (∃ b i' : Nat, f = some ((b : Int), pst s (i' : Int) ((s.size - x.length : Nat) : Int) k ns d) ∧ b < 256 ∧ i ≤ i' ∧ i' ≤ s.size) ∧ k ≠ 0 ∧ x.length ≤ s.size
section
variable (K : Nat) {s : ByteArray} {i : Nat} {w : Int} {ns : List aNd} {d : Int}
theorem pair_ok {wl l : List Nat} (h : At s i l) (hw : wl.length ≤ s.size) :
  match pPair wl l with
  | .ok b r => syr_pair K (pst s i w 0 ns d) = some ((b : Int), true, pst s ((s.size - r.length : Nat) : Int) w 0 ns d) ∧ b < 256 ∧ r <:+ l
  | .err k x => (k = 40 ∧ x = [] ∧ syr_pair K (pst s i w 0 ns d) = some (0, true, pst s i (s.size : Int) 40 ns d)) ∨ (k = 43 ∧ x = wl ∧ ∃ b i' : Nat, syr_pair K (pst s i w 0 ns d) = some ((b : Int), false, pst s (i' : Int) w 0 ns d) ∧ b < 256 ∧ i ≤ i' ∧ i' ≤ s.size) := by
 have hl := h.len
 have hsm := h.small
 have e1 : IntKind.i64.wrap ((i : Int) + 2) = ((i + 2 : Nat) : Int) := by rw [w64 (by omega) (by omega)]; omega
 match l, h with
 | [], h =>
  simp only [pPair]
  left
  refine ⟨by simp, by simp, ?_⟩
  simp only [List.length_nil] at hl
  rw [syr_pair]
  simp only [e1, show decide (((i + 2 : Nat) : Int) > (s.size : Int)) = true by simp; omega, cT, fail_ok, bS]
 | [x], h =>
  simp only [pPair]
  left
  refine ⟨by simp, by simp, ?_⟩
  simp only [List.length_cons, List.length_nil] at hl
  rw [syr_pair]
  simp only [e1, show decide (((i + 2 : Nat) : Int) > (s.size : Int)) = true by simp; omega, cT, fail_ok, bS]
 | x :: y :: r, h =>
  have h2 := h.tail
  have h3 := h2.tail
  simp only [List.length_cons] at hl
  have hf : syr_pair K (pst s i w 0 ns d) = some (bits .or .u8 (IntKind.u8.wrap ((((hexN x).getD 0 : Nat) : Int) * 2 ^ min (Int.toNat (4 : Int)) IntKind.u8.bits)) (((hexN y).getD 0 : Nat) : Int), (hexN x).isSome && (hexN y).isSome, pst s ((i + 1 + 1 : Nat) : Int) w 0 ns d) := by
   rw [syr_pair]
   simp only [e1, show decide (((i + 2 : Nat) : Int) > (s.size : Int)) = false by simp; omega, cF, next_cons K h, bS, snibble K x h.c256, next_cons K h2, snibble K y h2.c256]
   cases (hexN x).isSome <;> rfl
  have hlt : (hexN x).getD 0 < 16 ∧ (hexN y).getD 0 < 16 := by
   constructor
   ·cases hq : hexN x with
    | none => decide
    | some a => exact hexN_lt hq
   ·cases hq : hexN y with
    | none => decide
    | some a => exact hexN_lt hq
  have hb := or_hex ⟨(hexN x).getD 0, hlt.1⟩ ⟨(hexN y).getD 0, hlt.2⟩
  simp only at hb
  rw [hb] at hf
  simp only [pPair]
  cases hx : hexN x with
  | none =>
   simp only [hx] at hf
   simp only
   right
   simp only [Option.getD_none, Option.isSome_none, Bool.false_and] at hf
   exact ⟨by simp, by simp, _, _, hf, by rw [hx] at hlt; have := hlt.2; omega, by omega, by omega⟩
  | some a =>
   cases hy : hexN y with
   | none =>
    simp only
    right
    simp only [hx, hy, Option.getD_none, Option.getD_some, Option.isSome_some, Option.isSome_none, Bool.and_false] at hf
    exact ⟨by simp, by simp, _, _, hf, by rw [hx] at hlt; have := hlt.1; simp only [Option.getD_some] at this; omega, by omega, by omega⟩
   | some b =>
    simp only
    rw [hx, hy] at hlt hf
    simp only [Option.getD_some, Option.isSome_some, Bool.and_true] at hlt hf
    refine ⟨?_, by omega, ⟨[x, y], rfl⟩⟩
    rw [hf, show i + 1 + 1 = s.size - r.length by omega]
theorem esc_ok {wl l : List Nat} (h : At s i l) (hw : wl.length ≤ s.size) :
  match pEsc wl l with
  | .ok b r => syr_escape K (pst s i w 0 ns d) = some ((b : Int), true, pst s ((s.size - r.length : Nat) : Int) w 0 ns d) ∧ b < 256 ∧ r <:+ l
  | .err k x => (k = 40 ∧ x = [] ∧ ∃ i' : Nat, syr_escape K (pst s i w 0 ns d) = some (0, true, pst s (i' : Int) (s.size : Int) 40 ns d) ∧ i ≤ i' ∧ i' ≤ s.size) ∨ (k = 43 ∧ x = wl ∧ ∃ b i' : Nat, syr_escape K (pst s i w 0 ns d) = some ((b : Int), false, pst s (i' : Int) w 0 ns d) ∧ b < 256 ∧ i ≤ i' ∧ i' ≤ s.size) := by
 have hl := h.len
 cases l with
 | nil =>
  simp only [pEsc]
  left
  refine ⟨by simp, by simp, i, ?_, by omega, h.1⟩
  rw [syr_escape, next_nil K h]
  simp
 | cons c r =>
  have hc := h.c256
  have ht := h.tail
  have htl := ht.len
  have hsf : r <:+ c :: r := ⟨[c], rfl⟩
  have beqn : ∀ m : Nat, ((c : Int) == (m : Int)) = decide (c = m) := fun m => by
   rw [Bool.eq_iff_iff, beq_iff_eq, decide_eq_true_eq]; omega
  have hd : s.size - r.length = i + 1 := by omega
  rw [syr_escape, next_cons K h, bS]
  simp only [bne_self_eq_false, cF]
  have b110 : ((c : Int) == 110) = decide (c = 110) := beqn 110
  have b116 : ((c : Int) == 116) = decide (c = 116) := beqn 116
  have b114 : ((c : Int) == 114) = decide (c = 114) := beqn 114
  have b120 : ((c : Int) == 120) = decide (c = 120) := beqn 120
  have b45 : ((c : Int) == 45) = decide (c = 45) := beqn 45
  rw [b110, b116, b114, b120, b45]
  unfold pEsc
  by_cases h1 : c = 110
  ·simp only [h1, decide_true, if_true, cT]
   exact ⟨by rw [hd]; rfl, by decide, by rw [h1] at hsf; exact hsf⟩
  by_cases h2 : c = 116
  ·subst h2
   simp only [show ¬ (116 = 110) by decide, decide_true, decide_false, if_true, if_false, cT, cF]
   exact ⟨by rw [hd]; rfl, by decide, hsf⟩
  by_cases h3 : c = 114
  ·subst h3
   simp only [show ¬ (114 = 110) by decide, show ¬ (114 = 116) by decide, decide_true, decide_false, if_true, if_false, cT, cF]
   exact ⟨by rw [hd]; rfl, by decide, hsf⟩
  by_cases h4 : c = 120
  ·subst h4
   simp only [show ¬ (120 = 110) by decide, show ¬ (120 = 116) by decide, show ¬ (120 = 114) by decide, decide_true, decide_false, if_true, if_false, cT, cF]
   have hp := pair_ok (wl := wl) (w := w) (ns := ns) (d := d) K ht hw
   cases hq : pPair wl r with
   | ok b r' =>
    rw [hq] at hp
    simp only at hp ⊢
    rw [hp.1, bS]
    exact ⟨rfl, hp.2.1, hp.2.2.trans hsf⟩
   | err k x =>
    rw [hq] at hp
    simp only at hp ⊢
    rcases hp with ⟨rfl, rfl, hp⟩ | ⟨rfl, rfl, b, i', hp, hb, h5, h6⟩
    ·left
     refine ⟨rfl, rfl, i + 1, ?_, by omega, ht.1⟩
     rw [hp, bS]
    ·right
     refine ⟨rfl, rfl, b, i', ?_, hb, by omega, h6⟩
     rw [hp, bS]
  by_cases h5 : c = 45
  ·subst h5
   simp only [show ¬ (45 = 110) by decide, show ¬ (45 = 116) by decide, show ¬ (45 = 114) by decide, show ¬ (45 = 120) by decide, decide_true, decide_false, if_true, if_false, cT, cF, true_or]
   exact ⟨by rw [hd], by decide, hsf⟩
  ·simp only [h1, h2, h3, h4, h5, decide_false, if_false, cF, false_or]
   obtain ⟨e1, e2⟩ := sspec K c hc
   rw [e1, bS, e2]
   by_cases h6 : specN c = true
   ·simp only [h6, if_true]
    exact ⟨by rw [hd], hc, hsf⟩
   ·simp only [h6, if_false]
    right
    simp only [Bool.not_eq_true] at h6
    exact ⟨by simp, by simp, c, i + 1, rfl, hc, by omega, ht.1⟩
theorem one_ok {l : List Nat} (h : At s i l) : RdN s ns d w l i (syr_one K (pst s i w 0 ns d)) (pOne l) := by
 have hl := h.len
 have hsm := h.small
 cases l with
 | nil =>
  simp only [pOne, RdN]
  refine ⟨⟨0, i, ?_, by decide, Nat.le_refl _, h.1⟩, by decide, by simp⟩
  rw [syr_one, next_nil K h]
  rfl
 | cons c r =>
  have ht := h.tail
  have htl := ht.len
  have hsf : r <:+ c :: r := ⟨[c], rfl⟩
  simp only [List.length_cons] at hl
  rw [syr_one, next_cons K h, bS]
  have b92 : ((c : Int) != 92) = !decide (c = 92) := by
   rw [bne, Bool.not_inj_iff, Bool.eq_iff_iff, beq_iff_eq, decide_eq_true_eq]; omega
  simp only [b92, pOne]
  by_cases h1 : c = 92
  ·simp only [h1, decide_true, Bool.not_true, cF, if_true]
   subst h1
   have hp := esc_ok (wl := 92 :: r) (w := w) (ns := ns) (d := d) K ht (by simp; omega)
   cases hq : pEsc (92 :: r) r with
   | ok b r' =>
    rw [hq] at hp
    simp only at hp
    rw [hp.1, bS]
    simp only [Bool.not_true, cF, RdN]
    exact ⟨trivial, hp.2.1, hp.2.2.trans hsf⟩
   | err k x =>
    rw [hq] at hp
    simp only at hp
    rcases hp with ⟨rfl, rfl, i', hp, h5, h6⟩ | ⟨rfl, rfl, b, i', hp, hb, h5, h6⟩
    ·rw [hp, bS]
     simp only [Bool.not_true, cF, RdN, List.length_nil, Nat.sub_zero]
     exact ⟨⟨0, i', rfl, by decide, by omega, h6⟩, by decide, by omega⟩
    ·rw [hp, bS]
     simp only [Bool.not_false, cT, fail_ok, bS, RdN, List.length_cons]
     exact ⟨⟨b, i', by rw [show s.size - (r.length + 1) = i by omega]; rfl, hb, by omega, h6⟩, by decide, by omega⟩
  ·simp only [h1, decide_false, Bool.not_false, cT, if_false, RdN]
   exact ⟨by rw [show s.size - r.length = i + 1 by omega], h.c256, hsf⟩
theorem member_ok {l : List Nat} (h : At s i l) : RdN s ns d w l i (syr_member K (pst s i w 0 ns d)) (pMember l) := by
 have hl := h.len
 cases l with
 | nil =>
  have := one_ok (w := w) (ns := ns) (d := d) K h
  rw [syr_member, peek_nil K h]
  simp only [bS, cF, syr_member_j1, syr_member_j0, bne_self_eq_false]
  simp only [pMember, pOne] at this ⊢
  simp only [RdN] at this ⊢
  obtain ⟨⟨b, i', h1, h2⟩, h3⟩ := this
  exact ⟨⟨b, i', by rw [h1]; rfl, h2⟩, h3⟩
 | cons c r =>
  obtain ⟨e1, e2⟩ := smark K c h.c256
  rw [syr_member, peek_cons K h]
  simp only [bS, cT, e1, e2, pMember]
  cases h1 : markN c with
  | true =>
   simp only [cT, fail_ok, bS, syr_member_j0, if_true, RdN]
   simp only [List.length_cons] at hl ⊢
   refine ⟨⟨0, i, ?_, by decide, Nat.le_refl _, h.1⟩, by decide, by omega⟩
   rw [show s.size - (r.length + 1) = i by omega]
   rfl
  | false =>
   have := one_ok (w := w) (ns := ns) (d := d) K h
   simp only [cF, syr_member_j1, syr_member_j0, bne_self_eq_false, Bool.false_eq_true, if_false]
   cases hq : pOne (c :: r) with
   | ok b r' =>
    rw [hq] at this
    simp only [RdN] at this ⊢
    rw [this.1]
    exact ⟨rfl, this.2⟩
   | err k x =>
    rw [hq] at this
    simp only [RdN] at this ⊢
    obtain ⟨⟨b, i', h1, h2⟩, h3⟩ := this
    exact ⟨⟨b, i', by rw [h1]; rfl, h2⟩, h3⟩
end
end Go.Rv
namespace Go.Rv
theorem suf_len {l m : List Nat} (h : l <:+ m) : l.length ≤ m.length := h.length_le
section
variable (K : Nat) {s : ByteArray} {i : Nat} {w : Int} {ns : List aNd} {d : Int}
theorem dl_gt {a b : Nat} : decide ((a : Int) > (b : Int)) = decide (b < a) := by
 rw [Bool.eq_iff_iff, decide_eq_true_eq, decide_eq_true_eq]; omega
theorem number_l0 (x0 : syp) (i0 : Nat) (hx0 : x0.reader.at_ = (i0 : Int)) : ∀ (l : List Nat) (k i : Nat) (n : Int), At s i l → 0 ≤ n → n ≤ 4097 → i0 ≤ i → l.length < k →
  syr_number_l0 K k x0 n s (i : Int) w 0 d ns = some (if 6 < i + (l.takeWhile isDig).length - i0 ∨ (1 < i + (l.takeWhile isDig).length - i0 ∧ bt s (i0 : Int) = 48) then -1 else numF n (l.takeWhile isDig), pst s ((i + (l.takeWhile isDig).length : Nat) : Int) w 0 ns d) := by
 intro l
 induction l with
 | nil =>
  intro k i n h h0 h1 hi hk
  obtain ⟨k, rfl⟩ : ∃ k', k = k' + 1 := ⟨k - 1, by omega⟩
  have hn := h.nil
  have hsm := h.small
  rw [syr_number_l0]
  dsimp only
  rw [dig0 K h]
  simp only [digNext, bS, cF, List.takeWhile_nil, List.length_nil, Nat.add_zero, hx0, numF]
  have e1 : IntKind.i64.wrap ((i : Int) - (i0 : Int)) = ((i - i0 : Nat) : Int) := by rw [w64 (by omega) (by omega)]; omega
  rw [e1]
  have e6 : decide (((i - i0 : Nat) : Int) > 6) = decide (6 < i - i0) := dl_gt (b := 6)
  have e7 : decide (((i - i0 : Nat) : Int) > 1) = decide (1 < i - i0) := dl_gt (b := 1)
  rw [e6, e7]
  by_cases h6 : 6 < i - i0
  ·simp only [h6, decide_true, cT, true_or, if_true, syr_number_j1]
  ·simp only [h6, decide_false, cF, false_or]
   by_cases h7 : 1 < i - i0
   ·simp only [h7, decide_true, cT, true_and]
    rw [ck_pos ⟨by omega, by omega⟩]
    by_cases h8 : bt s (i0 : Int) = 48
    ·have : (bt s (i0 : Int) == 48) = true := by simpa using h8
     simp only [this, cT, syr_number_j1]; rw [if_pos h8]
    ·have : (bt s (i0 : Int) == 48) = false := by simpa using h8
     simp only [this, cF, h8, if_false]
   ·simp only [h7, decide_false, cF, false_and, if_false]
 | cons c l ih =>
  intro k i n h h0 h1 hi hk
  obtain ⟨k, rfl⟩ : ∃ k', k = k' + 1 := ⟨k - 1, by omega⟩
  have hlt := h.lt
  have hsm := h.small
  simp only [List.length_cons] at hk
  rw [syr_number_l0]
  dsimp only
  rw [dig0 K h]
  simp only [digNext, bS]
  cases hd : isDig c with
  | false =>
   simp only [cF, List.takeWhile_cons, hd, Bool.false_eq_true, if_false, List.length_nil, Nat.add_zero, hx0, numF]
   have e1 : IntKind.i64.wrap ((i : Int) - (i0 : Int)) = ((i - i0 : Nat) : Int) := by rw [w64 (by omega) (by omega)]; omega
   rw [e1]
   have e6 : decide (((i - i0 : Nat) : Int) > 6) = decide (6 < i - i0) := dl_gt (b := 6)
   have e7 : decide (((i - i0 : Nat) : Int) > 1) = decide (1 < i - i0) := dl_gt (b := 1)
   rw [e6, e7]
   by_cases h6 : 6 < i - i0
   ·simp only [h6, decide_true, cT, true_or, if_true, syr_number_j1]; try rfl
   ·simp only [h6, decide_false, cF, false_or]
    by_cases h7 : 1 < i - i0
    ·simp only [h7, decide_true, cT, true_and]
     rw [ck_pos ⟨by omega, by omega⟩]
     by_cases h8 : bt s (i0 : Int) = 48
     ·have : (bt s (i0 : Int) == 48) = true := by simpa using h8
      simp only [this, cT, syr_number_j1]; rw [if_pos h8]
     ·have : (bt s (i0 : Int) == 48) = false := by simpa using h8
      simp only [this, cF, h8, if_false]; try rfl
    ·simp only [h7, decide_false, cF, false_and, if_false]; try rfl
  | true =>
   have hdd : 48 ≤ c ∧ c ≤ 57 := by simpa [isDig] using hd
   simp only [cT]
   rw [next_cons K h, bS]
   have e1 : IntKind.u8.wrap ((c : Int) - 48) = ((c - 48 : Nat) : Int) := by
    rw [show ((c : Int) - 48) = ((c - 48 : Nat) : Int) by omega, w8 (by omega)]
   simp only [e1]
   rw [w64 (n := ((c - 48 : Nat) : Int)) (by omega) (by omega), w64 (n := 10 * n) (by omega) (by omega), w64 (n := 10 * n + ((c - 48 : Nat) : Int)) (by omega) (by omega), show (((c - 48 : Nat) : Int)) = (c : Int) - 48 by omega]
   rw [ih k (i + 1) _ h.tail (by split <;> omega) (by split <;> omega) (by omega) (by omega)]
   simp only [List.takeWhile_cons, hd, if_true, List.length_cons, numF]
   rw [show i + ((l.takeWhile isDig).length + 1) = i + 1 + (l.takeWhile isDig).length by omega]
theorem take_len {α : Type} (p : α → Bool) (l : List α) : (l.takeWhile p).length + (l.dropWhile p).length = l.length := by
 rw [← List.length_append, List.takeWhile_append_dropWhile]
theorem number_ok {l : List Nat} (h : At s i l) (hK : 1200 ≤ K) : syr_number K (pst s i w 0 ns d) = some (numV (l.takeWhile isDig), pst s ((s.size - (l.dropWhile isDig).length : Nat) : Int) w 0 ns d) := by
 have hl := h.len
 have hsm := h.small
 have ht := take_len isDig l
 rw [syr_number]
 simp only
 rw [number_l0 K (pst s i w 0 ns d) i rfl l K i 0 h (by omega) (by omega) (by omega) (by omega), numV]
 have e1 : i + (l.takeWhile isDig).length - i = (l.takeWhile isDig).length := by omega
 have e2 : i + (l.takeWhile isDig).length = s.size - (l.dropWhile isDig).length := by omega
 rw [e1, e2]
 have e3 : (1 < (l.takeWhile isDig).length ∧ bt s (i : Int) = 48) ↔ (1 < (l.takeWhile isDig).length ∧ (l.takeWhile isDig).head? = some 48) := by
  refine and_congr_right fun h1 => ?_
  cases l with
  | nil => simp at h1
  | cons c l =>
   cases hc : isDig c with
   | false => simp [List.takeWhile_cons, hc] at h1
   | true =>
    simp only [List.takeWhile_cons, hc, if_true, List.head?_cons, Option.some.injEq, h.byte]
    omega
 simp only [e3]
def RdB (s : ByteArray) (ns : List aNd) (d w : Int) (l : List Nat) (i : Nat) (f : Option (Int × Int × syp)) : Re (Int × Int) → Prop
 | .ok x r => f = some (x.1, x.2, pst s ((s.size - r.length : Nat) : Int) w 0 ns d) ∧ r <:+ l
 | .err k x => (∃ (lo hi : Int) (i' : Nat), f = some (lo, hi, pst s (i' : Int) ((s.size - x.length : Nat) : Int) k ns d) ∧ i ≤ i' ∧ i' ≤ s.size) ∧ k ≠ 0 ∧ x.length ≤ s.size
theorem fin_ok {wl l : List Nat} (h : At s i l) (x0 : syp) (hx0 : x0.reader.at_ = ((s.size - wl.length : Nat) : Int)) (hw : wl.length ≤ s.size) (lo hi : Int) (bad : Bool) :
  RdB s ns d w l i (syr_bounds_j0 K lo hi x0 bad s i w 0 d ns) (pFin wl lo hi bad l) := by
 have hl := h.len
 cases l with
 | nil =>
  rw [syr_bounds_j0, next_nil K h]
  simp only [bS, show ((40 : Int) != 0) = true from rfl, cT, syr_bounds_j1, pFin, RdB, List.length_nil, Nat.sub_zero]
  exact ⟨⟨lo, hi, i, rfl, Nat.le_refl _, h.1⟩, by decide, by omega⟩
 | cons c r =>
  have ht := h.tail
  have htl := ht.len
  simp only [List.length_cons] at hl
  rw [syr_bounds_j0, next_cons K h]
  have b125 : ((c : Int) != 125) = !decide (c = 125) := by
   rw [bne, Bool.not_inj_iff, Bool.eq_iff_iff, beq_iff_eq, decide_eq_true_eq]; omega
  simp only [bS, bne_self_eq_false, cF, b125, pFin]
  by_cases h1 : c = 125
  ·have hbad : ∀ (a b : Nat), RdB s ns d w (c :: r) i (syr_bounds_j2 K lo hi x0 s ((i + 1 : Nat) : Int) w 0 d ns) (.err 45 wl) := fun _ _ => by
    simp only [syr_bounds_j2, fail_ok, bS, syr_bounds_j1, RdB, hx0]
    exact ⟨⟨lo, hi, i + 1, rfl, by omega, ht.1⟩, by decide, hw⟩
   simp only [h1, decide_true, Bool.not_true, cF, ne_eq, not_true_eq_false, if_false]
   subst h1
   cases bad with
   | true => simp only [cT, true_or, if_true]; exact hbad 0 0
   | false =>
    simp only [cF, Bool.false_eq_true, false_or]
    by_cases h2 : 4096 < lo
    ·have : decide (lo > 4096) = true := decide_eq_true h2
     simp only [this, decide_true, decide_false, cT, h2, true_or, if_true]; exact hbad 0 0
    ·have : decide (lo > 4096) = false := decide_eq_false h2
     simp only [this, decide_true, decide_false, cF, h2, false_or]
     by_cases h3 : 4096 < hi
     ·have : decide (hi > 4096) = true := decide_eq_true h3
      simp only [this, decide_true, decide_false, cT, h3, true_or, if_true]; exact hbad 0 0
     ·have : decide (hi > 4096) = false := decide_eq_false h3
      simp only [this, decide_true, decide_false, cF, h3, false_or]
      by_cases h4 : hi = 0
      ·have : (hi == 0) = true := by simpa using h4
       simp only [this, decide_true, decide_false, cT, h4, true_or, if_true]; subst h4; exact hbad 0 0
      ·have : (hi == 0) = false := by simpa using h4
       simp only [this, decide_true, decide_false, cF, h4, false_or]
       by_cases h5 : 0 < hi
       ·have : decide (hi > 0) = true := decide_eq_true h5
        simp only [this, decide_true, decide_false, cT, h5, true_and]
        by_cases h6 : hi < lo
        ·simp only [h6, decide_true, cT, if_true]; exact hbad 0 0
        ·simp only [h6, decide_false, cF, if_false, syr_bounds_j3, syr_bounds_j1, RdB]
         exact ⟨by rw [show s.size - r.length = i + 1 by omega], ⟨[125], rfl⟩⟩
       ·have : decide (hi > 0) = false := decide_eq_false h5
        simp only [this, decide_true, decide_false, cF, h5, false_and, if_false, syr_bounds_j3, syr_bounds_j1, RdB]
        exact ⟨by rw [show s.size - r.length = i + 1 by omega], ⟨[125], rfl⟩⟩
  ·simp only [h1, decide_false, Bool.not_false, cT, fail_ok, bS, syr_bounds_j1, ne_eq, not_false_eq_true, if_true, RdB, List.length_cons]
   exact ⟨⟨lo, hi, i + 1, by rw [show s.size - (r.length + 1) = i by omega]; rfl, by omega, ht.1⟩, by decide, by omega⟩
end
end Go.Rv
namespace Go.Rv
theorem RdB.mono {s : ByteArray} {ns : List aNd} {d w : Int} {l l' : List Nat} {i i' : Nat} {f : Option (Int × Int × syp)} {x : Re (Int × Int)} (h : RdB s ns d w l i f x) (hl : l <:+ l') (hi : i' ≤ i) : RdB s ns d w l' i' f x := by
 cases x with
 | ok x r => exact ⟨h.1, h.2.trans hl⟩
 | err k x =>
  obtain ⟨⟨lo, hi', j, h1, h2, h3⟩, h4⟩ := h
  exact ⟨⟨lo, hi', j, h1, by omega, h3⟩, h4⟩
section
variable (K : Nat) {s : ByteArray} {i : Nat} {w : Int} {ns : List aNd} {d : Int}
theorem bounds_ok {r : List Nat} (h : At s i (123 :: r)) (hK : 1200 ≤ K) : RdB s ns d w (123 :: r) i (syr_bounds K (pst s i w 0 ns d)) (pBounds (123 :: r) r) := by
 have hl := h.len
 have ht := h.tail
 simp only [List.length_cons] at hl
 have hx0 : (pst s i w 0 ns d).reader.at_ = ((s.size - (123 :: r).length : Nat) : Int) := by
  simp only [List.length_cons]; omega
 have hw : (123 :: r).length ≤ s.size := by simp only [List.length_cons]; omega
 have hs1 := dropWhile_suf isDig r
 have h2 := ht.suffix hs1
 have hdl := suf_len hs1
 rw [syr_bounds, next_cons K h, bS]
 simp only
 rw [number_ok K ht hK, bS]
 simp only
 unfold pBounds
 split
 ·rename_i r2 he
  rw [he] at h2 hs1
  rw [he, show (44 : Int) = ((44 : Nat) : Int) from rfl, skip_yes K h2, bS]
  simp only [cT]
  have h3 := h2.tail
  have hs2 : r2 <:+ 123 :: r := (List.suffix_cons 44 r2).trans (hs1.trans (List.suffix_cons 123 r))
  rw [dig0 K h3, bS]
  have hp1 : s.size - (44 :: r2).length + 1 = s.size - r2.length := by
   have := h3.len
   omega
  cases hdg : digNext r2 with
  | true =>
   simp only [cT, if_true]
   rw [number_ok K h3 hK, bS]
   have hs3 := dropWhile_suf isDig r2
   have h4 := h3.suffix hs3
   have key := fun bad => fin_ok K h4 (wl := 123 :: r) (ns := ns) (d := d) (w := w) (pst s i w 0 ns d) hx0 hw (numV (r.takeWhile isDig)) (numV (r2.takeWhile isDig)) bad
   have hle : i ≤ s.size - (r2.dropWhile isDig).length := by have := suf_len (hs3.trans hs2); simp only [List.length_cons] at this; omega
   by_cases hneg : numV (r.takeWhile isDig) < 0
   ·have := key true
    simp only [hneg, decide_true, cT, Bool.true_or]
    exact this.mono (hs3.trans hs2) hle
   ·have := key (decide (numV (r2.takeWhile isDig) < 0))
    simp only [hneg, decide_false, cF, Bool.false_or]
    exact this.mono (hs3.trans hs2) hle
  | false =>
   simp only [cF, Bool.false_eq_true, if_false]
   have key := fin_ok K h3 (wl := 123 :: r) (ns := ns) (d := d) (w := w) (pst s i w 0 ns d) hx0 hw (numV (r.takeWhile isDig)) (-1) (decide (numV (r.takeWhile isDig) < 0))
   exact key.mono hs2 (by have := suf_len hs2; simp only [List.length_cons] at this; have := h3.len; omega)
 ·rename_i hne
  have hh : (r.dropWhile isDig).head? ≠ some 44 := by
   intro hh
   cases hq : r.dropWhile isDig with
   | nil => rw [hq] at hh; cases hh
   | cons c r' => rw [hq] at hh; simp at hh; subst hh; exact hne r' hq
  rw [show (44 : Int) = ((44 : Nat) : Int) from rfl, skip_no K h2 hh, bS]
  simp only [cF]
  have key := fin_ok K h2 (wl := 123 :: r) (ns := ns) (d := d) (w := w) (pst s i w 0 ns d) hx0 hw (numV (r.takeWhile isDig)) (numV (r.takeWhile isDig)) (decide (numV (r.takeWhile isDig) < 0))
  exact key.mono (hs1.trans (List.suffix_cons 123 r)) (by omega)
def RdT (s : ByteArray) (ns : List aNd) (d w : Int) (l : List Nat) (i : Nat) (f : Option (Int × Int × Bool × syp)) : Option (Re (Int × Int)) → Prop
 | none => f = some (0, 0, false, pst s i w 0 ns d)
 | some (.ok x r) => f = some (x.1, x.2, true, pst s ((s.size - r.length : Nat) : Int) w 0 ns d) ∧ r <:+ l
 | some (.err k x) => (∃ (lo hi : Int) (i' : Nat), f = some (lo, hi, true, pst s (i' : Int) ((s.size - x.length : Nat) : Int) k ns d) ∧ i ≤ i' ∧ i' ≤ s.size) ∧ k ≠ 0 ∧ x.length ≤ s.size
theorem times_ok {l : List Nat} (h : At s i l) (hK : 1200 ≤ K) : RdT s ns d w l i (syp_times K (pst s i w 0 ns d)) (pTimes l) := by
 have hl := h.len
 rw [syp_times]
 cases l with
 | nil =>
  rw [show (42 : Int) = ((42 : Nat) : Int) from rfl, skip_no K h (by simp), bS]
  simp only [cF]
  rw [show (43 : Int) = ((43 : Nat) : Int) from rfl, skip_no K h (by simp), bS]
  simp only [cF]
  rw [show (63 : Int) = ((63 : Nat) : Int) from rfl, skip_no K h (by simp), bS]
  simp only [cF]
  rw [show (123 : Int) = ((123 : Nat) : Int) from rfl, is_eq K h, bS]
  simp only [List.head?_nil, reduceCtorEq, decide_false, cF, syp_times_j0, pTimes, RdT]
 | cons c r =>
  have ht := h.tail
  have hsf : r <:+ c :: r := List.suffix_cons c r
  simp only [List.length_cons] at hl
  have hi1 : i + 1 = s.size - r.length := by omega
  unfold pTimes
  by_cases h1 : c = 42
  ·subst h1
   rw [show (42 : Int) = ((42 : Nat) : Int) from rfl, skip_yes K h, bS]
   simp only [cT, if_true, RdT]
   exact ⟨by rw [hi1], hsf⟩
  rw [show (42 : Int) = ((42 : Nat) : Int) from rfl, skip_no K h (by simpa using h1), bS]
  simp only [cF, h1, if_false]
  by_cases h2 : c = 43
  ·subst h2
   rw [show (43 : Int) = ((43 : Nat) : Int) from rfl, skip_yes K h, bS]
   simp only [cT, if_true, RdT]
   exact ⟨by rw [hi1], hsf⟩
  rw [show (43 : Int) = ((43 : Nat) : Int) from rfl, skip_no K h (by simpa using h2), bS]
  simp only [cF, h2, if_false]
  by_cases h3 : c = 63
  ·subst h3
   rw [show (63 : Int) = ((63 : Nat) : Int) from rfl, skip_yes K h, bS]
   simp only [cT, if_true, RdT]
   exact ⟨by rw [hi1], hsf⟩
  rw [show (63 : Int) = ((63 : Nat) : Int) from rfl, skip_no K h (by simpa using h3), bS]
  simp only [cF, h3, if_false]
  rw [show (123 : Int) = ((123 : Nat) : Int) from rfl, is_eq K h, bS]
  by_cases h4 : c = 123
  ·subst h4
   simp only [List.head?_cons, decide_true, cT, true_and]
   rw [dig1 K h, bS]
   simp only [List.drop_one, List.tail_cons]
   cases hdg : digNext r with
   | false =>
    simp only [cF, Bool.false_eq_true, if_false, syp_times_j0, RdT]
   | true =>
    simp only [cT, if_true]
    have hb := bounds_ok (ns := ns) (d := d) (w := w) K h hK
    cases hq : pBounds (123 :: r) r with
    | ok x r' =>
     rw [hq] at hb
     simp only [RdB] at hb
     rw [hb.1, bS]
     simp only [RdT]
     exact ⟨trivial, hb.2⟩
    | err k x =>
     rw [hq] at hb
     simp only [RdB] at hb
     obtain ⟨⟨lo, hi, i', e1, e2, e3⟩, e4⟩ := hb
     rw [e1, bS]
     simp only [RdT]
     exact ⟨⟨lo, hi, i', rfl, e2, e3⟩, e4⟩
  ·simp only [List.head?_cons, Option.some.injEq, h4, decide_false, cF, false_and, if_false, syp_times_j0, RdT]
theorem times_bad {i e : Int} (he : e ≠ 0) : syp_times K (pst s i w e ns d) = some (0, 0, false, pst s i w e ns d) := by
 rw [syp_times, skip_bad K he, bS]
 simp only [cF]
 rw [skip_bad K he, bS]
 simp only [cF]
 rw [skip_bad K he, bS]
 simp only [cF]
 rw [is_bad K he, bS]
 simp only [cF, syp_times_j0]
/- Names. -/
theorem sletter (c : Nat) : sy_letter K (c : Int) = some (letterN c) := by
 have e95 : ((c : Int) == 95) = (c == 95) := by rw [Bool.eq_iff_iff, beq_iff_eq, beq_iff_eq]; omega
 have g1 : decide ((c : Int) ≥ 97) = decide (97 ≤ c) := by rw [Bool.eq_iff_iff, decide_eq_true_eq, decide_eq_true_eq]; omega
 have g2 : decide ((c : Int) ≤ 122) = decide (c ≤ 122) := by rw [Bool.eq_iff_iff, decide_eq_true_eq, decide_eq_true_eq]; omega
 have g3 : decide ((c : Int) ≥ 65) = decide (65 ≤ c) := by rw [Bool.eq_iff_iff, decide_eq_true_eq, decide_eq_true_eq]; omega
 have g4 : decide ((c : Int) ≤ 90) = decide (c ≤ 90) := by rw [Bool.eq_iff_iff, decide_eq_true_eq, decide_eq_true_eq]; omega
 rw [sy_letter, letterN, e95, g1, g2, g3, g4]
 cases decide (97 ≤ c) <;> cases decide (c ≤ 122) <;> cases decide (65 ≤ c) <;> cases decide (c ≤ 90) <;> simp
theorem Name_l0 (t : ByteArray) (ht : t.size ≤ 9223372036854775807) : ∀ (m k i : Nat), t.size - i = m → i ≤ t.size → m < k → 0 < i →
  sy_Name_l0 K k t (t.size : Int) (i : Int) = some (((bs t).drop i).all (fun c => letterN c || isDig c) && decide (t.size ≤ 32)) := by
 intro m
 induction m with
 | zero =>
  intro k i hm hi hk h0
  obtain ⟨k, rfl⟩ : ∃ k', k = k' + 1 := ⟨k - 1, by omega⟩
  rw [sy_Name_l0]
  dsimp only
  have e1 : decide ((i : Int) < (t.size : Int)) = false := by simp; omega
  have e2 : decide ((t.size : Int) ≥ 1) = true := by simp; omega
  have e3 : decide ((t.size : Int) ≤ 32) = decide (t.size ≤ 32) := by rw [Bool.eq_iff_iff, decide_eq_true_eq, decide_eq_true_eq]; omega
  rw [e1, cF, e2, cT, e3, List.drop_eq_nil_of_le (by rw [bs_len]; omega)]
  simp
 | succ m ih =>
  intro k i hm hi hk h0
  obtain ⟨k, rfl⟩ : ∃ k', k = k' + 1 := ⟨k - 1, by omega⟩
  have hlt : i < t.size := by omega
  have hlt' : i < (bs t).length := by rw [bs_len]; exact hlt
  rw [sy_Name_l0]
  dsimp only
  have e1 : decide ((i : Int) < (t.size : Int)) = true := by simp; omega
  have hb : bt t (i : Int) = ((bs t)[i] : Int) := by rw [bt_bs, List.getElem?_eq_getElem hlt']; rfl
  rw [e1, cT, ck_pos ⟨by omega, by omega⟩, hb, sletter, bS, List.drop_eq_getElem_cons hlt', List.all_cons]
  have e4 : ((i : Int) == 0) = false := by simp; omega
  have hr := ih k (i + 1) (by omega) (by omega) (by omega) (by omega)
  rw [w64s (n := i) (by omega)]
  cases letterN (bs t)[i] with
  | true => simp only [Bool.not_true, cF, Bool.true_or, Bool.true_and]; exact hr
  | false =>
   simp only [Bool.not_false, cT, e4, cF, sdigit, bS, Bool.false_or]
   cases isDig (bs t)[i] with
   | true => simp only [Bool.not_true, cF, Bool.true_and]; exact hr
   | false => simp only [Bool.not_false, cT, Bool.false_and, sy_Name_j1]
theorem Name_ok (t : ByteArray) (hK : t.size < K) (ht : t.size ≤ 9223372036854775807) : sy_Name K t = some (nameOk (bs t)) := by
 obtain ⟨k, rfl⟩ : ∃ k', K = k' + 1 := ⟨K - 1, by omega⟩
 have hlen := bs_len t
 rw [sy_Name, sy_Name_l0]
 dsimp only
 by_cases h0 : t.size = 0
 ·have e1 : decide ((0 : Int) < (t.size : Int)) = false := decide_eq_false (by omega)
  have e2 : decide ((t.size : Int) ≥ 1) = false := decide_eq_false (by omega)
  rw [e1, cF, e2, cF]
  have : bs t = [] := List.eq_nil_of_length_eq_zero (by omega)
  rw [this]; rfl
 ·have e1 : decide ((0 : Int) < (t.size : Int)) = true := decide_eq_true (by omega)
  obtain ⟨c, r, hc⟩ : ∃ c r, bs t = c :: r := by
   cases hq : bs t with
   | nil => rw [hq] at hlen; simp at hlen; omega
   | cons c r => exact ⟨c, r, rfl⟩
  have hb : bt t (0 : Int) = (c : Int) := by
   have := bt_bs t 0
   rw [hc] at this
   exact this
  have hr := Name_l0 (k + 1) t ht (t.size - 1) k 1 rfl (by omega) (by omega) (by omega)
  rw [e1, cT, ck_pos (show (0 : Int) ≤ 0 ∧ (0 : Int) < (t.size : Int) from ⟨by omega, by omega⟩), hb, sletter, bS]
  have e5 : IntKind.i64.wrap (0 + 1) = ((1 : Nat) : Int) := by decide
  simp only [beq_self_eq_true, cT, sy_Name_j1, e5]
  rw [hr, hc]
  rw [hc] at hlen
  simp only [nameOk, List.all_cons, List.drop_one, List.tail_cons, hlen]
  cases letterN c with
  | true => simp
  | false => simp
theorem idx_take : ∀ (l : List UInt8) (c : Nat), c < 256 → Lib.indexByte l c.toUInt8 = match (l.map UInt8.toNat).dropWhile (fun x => x != c) with | [] => -1 | _ :: _ => ((((l.map UInt8.toNat).takeWhile fun x => x != c).length : Nat) : Int) := by
 intro l
 induction l with
 | nil => intro c _; rfl
 | cons b l ih =>
  intro c hc
  have hbc : (b == c.toUInt8) = (b.toNat == c) := by
   rw [Bool.eq_iff_iff, beq_iff_eq, beq_iff_eq]
   constructor
   ·rintro rfl; exact UInt8.toNat_ofNat_of_lt' hc
   ·intro h
    apply UInt8.toNat_inj.1
    rw [h]
    exact (UInt8.toNat_ofNat_of_lt' hc).symm
  rw [Lib.indexByte, hbc, ih c hc]
  simp only [List.map_cons, List.dropWhile_cons, List.takeWhile_cons, bne]
  cases hq : b.toNat == c with
  | true => simp
  | false =>
   simp only [Bool.false_eq_true, if_false, Bool.not_false, if_true]
   cases (l.map UInt8.toNat).dropWhile (fun x => !(x == c)) with
   | nil => simp
   | cons a r =>
    simp only [List.length_cons]
    have : ((((l.map UInt8.toNat).takeWhile fun x => !(x == c)).length : Nat) : Int) ≠ -1 := by omega
    simp [this]
theorem put_ok (p : syp) (n : aNd) (hn : p.nodes.length ≤ 100000) : syp_put K p n = some ((p.nodes.length : Int), ⟨p.reader, p.nodes ++ [n], p.deep⟩) := by
 have hr : roomy 96 (p.nodes.length + [n].length) = true := by
  rw [roomy_iff]
  simp only [List.length_cons, List.length_nil, maxLen]
  omega
 rw [syp_put, ck_pos hr]
 simp only [List.length_append, List.length_cons, List.length_nil]
 rw [w64 (by omega) (by omega)]
 congr 2
 omega
theorem bytes_ok (p : syp) (x : Arr4) (hn : p.nodes.length ≤ 100000) : syp_bytes K p x = some ((p.nodes.length : Int), ⟨p.reader, p.nodes ++ [⟨2, x, [], 0, 0, noB⟩], p.deep⟩) := by
 rw [syp_bytes, put_ok K p _ hn]
 rfl
theorem join_one (p : syp) (op a : Int) : syp_join K p op [a] = some (a, p) := by
 rw [syp_join]
 rfl
theorem join_ok (p : syp) (op : Int) (l : List Int) (hl : l.length ≠ 1) (hn : p.nodes.length ≤ 100000) : syp_join K p op l = some ((p.nodes.length : Int), ⟨p.reader, p.nodes ++ [⟨op, z4, l, 0, 0, noB⟩], p.deep⟩) := by
 have e1 : ((l.length : Int) == 1) = false := by simp; omega
 rw [syp_join, e1, cF, put_ok K p _ hn]
 rfl
end
end Go.Rv
namespace Go.Rv
section
variable (K : Nat) {s : ByteArray} {i : Nat} {w : Int} {ns : List aNd} {d : Int}
theorem name_ok {r : List Nat} (h : At s i (123 :: r)) (hK : 1200 ≤ K) :
  match pName r with
  | .ok t r' => ∃ nm, t = .ref nm ∧ syr_name K (pst s i w 0 ns d) = some (toB nm, pst s ((s.size - r'.length : Nat) : Int) w 0 ns d) ∧ r' <:+ r
  | .err k x => ∃ (b : ByteArray) (i' : Nat), syr_name K (pst s i w 0 ns d) = some (b, pst s (i' : Int) ((s.size - x.length : Nat) : Int) k ns d) ∧ i ≤ i' ∧ i' ≤ s.size ∧ k ≠ 0 ∧ x.length ≤ s.size := by
 have ht := h.tail
 have hl := ht.len
 have hsm := h.small
 have hlt := h.lt
 have hex : bs (s.extract (i + 1) s.size) = r := by
  rw [bs_extract, List.take_of_length_le (by rw [bs_len]; omega), ht.2.1]
 have hidx := idx_take (s.extract (i + 1) s.size).data.toList 125 (by decide)
 rw [show (s.extract (i + 1) s.size).data.toList.map UInt8.toNat = r from hex] at hidx
 have htl := take_len (fun c => c != 125) r
 rw [syr_name, next_cons K h, bS]
 simp only
 rw [ck_pos ⟨by omega, by omega, by omega⟩, strings_IndexByte, stringslite_IndexByte, bS, bS]
 have hix : idxS (s.extract (Int.toNat ((i + 1 : Nat) : Int)) s.size) 125 = match r.dropWhile (fun x => x != 125) with | [] => -1 | _ :: _ => (((r.takeWhile fun x => x != 125).length : Nat) : Int) := by
  rw [idxS, Int.toNat_natCast]
  exact hidx
 rw [hix]
 unfold pName
 cases hd : r.dropWhile (fun c => c != 125) with
 | nil =>
  simp only
  have : decide ((-1 : Int) < 0) = true := by decide
  simp only [this, cT, fail_ok, bS, List.length_nil, Nat.sub_zero]
  exact ⟨_, i + 1, rfl, by omega, by omega, by decide, by omega⟩
 | cons c r' =>
  simp only
  rw [hd] at htl
  simp only [List.length_cons] at htl
  have hneg : decide ((((r.takeWhile fun x => x != 125).length : Nat) : Int) < 0) = false := decide_eq_false (by omega)
  generalize hm : (r.takeWhile fun x => x != 125).length = m at *
  have e1 : IntKind.i64.wrap (((i + 1 : Nat) : Int) + (m : Int)) = ((i + 1 + m : Nat) : Int) := by rw [w64 (by omega) (by omega)]; omega
  have e2 : IntKind.i64.wrap ((m : Int) + 1) = ((m + 1 : Nat) : Int) := by rw [w64 (by omega) (by omega)]; omega
  have e3 : IntKind.i64.wrap (((i + 1 : Nat) : Int) + ((m + 1 : Nat) : Int)) = ((s.size - r'.length : Nat) : Int) := by rw [w64 (by omega) (by omega)]; omega
  have hnm : bs (s.extract (i + 1) (i + 1 + m)) = r.takeWhile fun x => x != 125 := by
   rw [bs_extract, ← List.take_drop, ht.2.1, ← hm]
   exact (List.prefix_iff_eq_take.1 (List.takeWhile_prefix _)).symm
  simp only [hneg, cF, e1, Int.toNat_natCast]
  rw [ck_pos ⟨by omega, by omega, by omega, by omega⟩, Name_ok K _ (by rw [← bs_len, hnm]; omega) (by rw [← bs_len, hnm]; omega), bS, hnm]
  cases hok : nameOk (r.takeWhile fun x => x != 125) with
  | true =>
   simp only [Bool.not_true, cF, syr_name_j0, if_true, e2, e3]
   refine ⟨_, rfl, ?_, ?_⟩
   ·rw [← hnm, toB_bs]
   ·have := dropWhile_suf (fun c => c != 125) r
    rw [hd] at this
    exact (List.suffix_cons c r').trans this
  | false =>
   simp only [Bool.not_false, cT, fail_ok, bS, syr_name_j0, Bool.false_eq_true, if_false, e2, e3]
   exact ⟨_, s.size - r'.length, by rw [show s.size - r.length = i + 1 by omega]; rfl, by omega, by omega, by decide, by omega⟩
theorem j5_ok (hK : 1200 ≤ K) (go : Bool → Bool → ByteArray → Int → Int → Int → Int → (List aNd) → Arr4 → Arr4 → Option (Arr4 × syp)) (neg a b c : Bool) (lo hi : Nat) (hl : lo < 256) (hh : hi < 256) (i w e : Int) (y2 : Arr4) (p : Nat → Bool) :
  syr_class_j5 K go neg (lo : Int) (hi : Int) a b c s i w e d ns y2 (st p) = go neg false s i w e d ns y2 (st fun c => p c || (decide (lo ≤ c) && decide (c ≤ hi))) := by
 rw [syr_class_j5, Range_spec K lo hi hl hh (by omega), bS, Or2 K (by omega), bS]
def SpanR (s : ByteArray) (i : Nat) (w d : Int) (ns : List aNd) (go : Bool → Bool → ByteArray → Int → Int → Int → Int → (List aNd) → Arr4 → Arr4 → Option (Arr4 × syp)) (neg : Bool) (y2 : Arr4) (p : Nat → Bool) (f : Option (Arr4 × syp)) : Re (Nat × Nat) → Prop
 | .ok x r => f = go neg false s ((s.size - r.length : Nat) : Int) w 0 d ns y2 (st fun c => p c || (decide (x.1 ≤ c) && decide (c ≤ x.2)))
 | .err k x => ∃ (q : Nat → Bool) (i' : Nat), f = go neg false s (i' : Int) ((s.size - x.length : Nat) : Int) k d ns y2 (st q) ∧ i ≤ i' ∧ i' ≤ s.size
theorem span_ok {l : List Nat} (h : At s i l) (hK : 1200 ≤ K) (go : Bool → Bool → ByteArray → Int → Int → Int → Int → (List aNd) → Arr4 → Arr4 → Option (Arr4 × syp)) (neg a b c : Bool) (y2 : Arr4) (p : Nat → Bool) :
  SpanR s i w d ns go neg y2 p (syr_class_j1 K go neg a b c s i w 0 d ns y2 (st p)) (pSpan l) := by
 have hl := h.len
 have hm := member_ok (w := w) (ns := ns) (d := d) K h
 rw [syr_class_j1]
 unfold pSpan
 cases hq : pMember l with
 | err k x =>
  rw [hq] at hm
  simp only [RdN] at hm
  obtain ⟨⟨b0, i', e1, hb, h1, h2⟩, hk, hx⟩ := hm
  have hk' : (k : Int) ≠ 0 := by omega
  rw [e1, bS]
  simp only
  rw [skip_bad K hk', bS]
  simp only [cF, j5_ok K hK go neg a b c b0 b0 hb hb]
  exact ⟨_, i', rfl, h1, h2⟩
 | ok lo r0 =>
  rw [hq] at hm
  simp only [RdN] at hm
  obtain ⟨e1, hb, hsf⟩ := hm
  have h1 := h.suffix hsf
  rw [e1, bS]
  simp only
  by_cases hh : r0.head? = some 45
  ·obtain ⟨r, rfl⟩ : ∃ r, r0 = 45 :: r := by
    cases r0 with
    | nil => cases hh
    | cons c r => simp at hh; exact ⟨r, by rw [hh]⟩
   have h1t := h1.tail
   have hsf2 : r <:+ l := (List.suffix_cons 45 r).trans hsf
   have hp1 : s.size - (45 :: r).length + 1 = s.size - r.length := by have := h1t.len; omega
   have hm2 := member_ok (w := w) (ns := ns) (d := d) K h1t
   rw [show (45 : Int) = ((45 : Nat) : Int) from rfl, skip_yes K h1, bS]
   simp only [cT]
   cases hq2 : pMember r with
   | err k x =>
    rw [hq2] at hm2
    simp only [RdN] at hm2
    obtain ⟨⟨b1, i', e2, hb1, h2, h3⟩, hk, hx⟩ := hm2
    have hk' : (k : Int) ≠ 0 := by omega
    rw [e2, bS]
    simp only
    have hle : i ≤ i' := by have := suf_len hsf2; omega
    cases decide ((b1 : Int) < (lo : Int)) with
    | true =>
     simp only [cT, fail_bad K hk', bS, j5_ok K hK go neg a b c lo b1 hb hb1]
     exact ⟨_, i', rfl, hle, h3⟩
    | false =>
     simp only [cF, j5_ok K hK go neg a b c lo b1 hb hb1]
     exact ⟨_, i', rfl, hle, h3⟩
   | ok hi r2 =>
    rw [hq2] at hm2
    simp only [RdN] at hm2
    obtain ⟨e2, hb1, hsf3⟩ := hm2
    rw [e2, bS]
    simp only
    have ed : decide ((hi : Int) < (lo : Int)) = decide (hi < lo) := by rw [Bool.eq_iff_iff, decide_eq_true_eq, decide_eq_true_eq]; omega
    rw [ed]
    by_cases hlt : hi < lo
    ·simp only [hlt, decide_true, cT, fail_ok, bS, j5_ok K hK go neg a b c lo hi hb hb1, if_true]
     have := suf_len hsf2
     have := suf_len hsf3
     exact ⟨_, s.size - r2.length, by rw [hp1]; rfl, by omega, by omega⟩
    ·simp only [hlt, decide_false, cF, j5_ok K hK go neg a b c lo hi hb hb1, if_false, SpanR]
  ·rw [show (45 : Int) = ((45 : Nat) : Int) from rfl, skip_no K h1 hh, bS]
   simp only [cF, j5_ok K hK go neg a b c lo lo hb hb]
   split
   ·rename_i h2; cases h2
   ·rename_i h2; cases h2; exact absurd rfl hh
   ·rename_i h2; cases h2; rfl
def SpS (K : Nat) (s : ByteArray) (l : List Nat) (first : Bool) (p : Nat → Bool) : Re Pt → Prop
 | .ok t r => ∃ q, t = .set (st q) ∧ ∀ (i : Nat) (w d : Int) (ns : List aNd) (neg : Bool) (y2 : Arr4) (k : Nat), At s i l → l.length + 2 ≤ k →
   syr_class_l0 K k neg first s i w 0 d ns y2 (st p) = syr_class_j2 K neg s ((s.size - r.length : Nat) : Int) w 0 d ns y2 (st q)
 | .err kk x => ∀ (i : Nat) (w d : Int) (ns : List aNd) (neg : Bool) (y2 : Arr4) (k : Nat), At s i l → l.length + 2 ≤ k →
   ∃ (q : Nat → Bool) (i' : Nat), syr_class_l0 K k neg first s i w 0 d ns y2 (st p) = syr_class_j2 K neg s (i' : Int) ((s.size - x.length : Nat) : Int) kk d ns y2 (st q) ∧ i ≤ i' ∧ i' ≤ s.size
theorem spans_ok (hK : 1200 ≤ K) {g : Goal} {l : List Nat} {res : Re Pt} (h : PR g l res) : ∀ {first p}, g = .spans first p → SpS K s l first p res := by
 have step : ∀ (k : Nat) (neg first : Bool) (i : Nat) (w d : Int) (ns : List aNd) (y2 : Arr4) (p : Nat → Bool) (l : List Nat), At s i l → (first = false → l.head? ≠ some 93) →
   ∃ a b c, syr_class_l0 K (k + 1) neg first s i w 0 d ns y2 (st p) = syr_class_j1 K (syr_class_l0 K k) neg a b c s i w 0 d ns y2 (st p) := by
  intro k neg first i w d ns y2 p l hat hf
  rw [syr_class_l0]
  dsimp only
  simp only [beq_self_eq_true, cT]
  cases first with
  | true => exact ⟨_, _, _, rfl⟩
  | false =>
   simp only [cF]
   rw [show (93 : Int) = ((93 : Nat) : Int) from rfl, is_eq K hat, decide_eq_false (hf rfl), bS]
   exact ⟨_, _, _, rfl⟩
 induction h with
 | @spans0 p l h0 =>
  intro first p' hg
  cases hg
  refine ⟨p, rfl, ?_⟩
  intro i w d ns neg y2 k hat hk
  obtain ⟨k, rfl⟩ : ∃ k', k = k' + 1 := ⟨k - 1, by omega⟩
  rw [syr_class_l0]
  dsimp only
  simp only [beq_self_eq_true, cT, cF]
  rw [show (93 : Int) = ((93 : Nat) : Int) from rfl, is_eq K hat, decide_eq_true h0, bS]
  simp only [Bool.not_true, cF]
  rw [at_end s i l hat]
 | @spansE first p l k x hf hs =>
  intro first' p' hg
  cases hg
  intro i w d ns neg y2 kk hat hk
  obtain ⟨kk, rfl⟩ : ∃ k', kk = k' + 2 := ⟨kk - 2, by omega⟩
  obtain ⟨a, b, c, e1⟩ := step (kk + 1) neg first i w d ns y2 p l hat hf
  have h2 := span_ok (w := w) (ns := ns) (d := d) K hat hK (syr_class_l0 K (kk + 1)) neg a b c y2 p
  have hsf := pSpan_suf l
  rw [hs] at h2 hsf
  obtain ⟨q, i', e2, h3, h4⟩ := h2
  refine ⟨q, i', ?_, h3, h4⟩
  rw [e1, e2, syr_class_l0]
  dsimp only
  have hk0 := hsf.2.1
  have : ((k : Int) == 0) = false := by simp; omega
  rw [this, cF]
 | @spans1 first p l lo hi r res hf hs hp ih =>
  intro first' p' hg
  cases hg
  have ihs := ih rfl
  have hlen := pSpan_ok hs
  have hsf := pSpan_suf l
  rw [hs] at hsf
  cases res with
  | ok t r' =>
   obtain ⟨q, rfl, ihk⟩ := ihs
   refine ⟨q, rfl, ?_⟩
   intro i w d ns neg y2 k hat hk
   obtain ⟨k, rfl⟩ : ∃ k', k = k' + 1 := ⟨k - 1, by omega⟩
   obtain ⟨a, b, c, e1⟩ := step k neg first i w d ns y2 p l hat hf
   have h2 := span_ok (w := w) (ns := ns) (d := d) K hat hK (syr_class_l0 K k) neg a b c y2 p
   rw [hs] at h2
   simp only [SpanR] at h2
   rw [e1, h2]
   exact ihk _ w d ns neg y2 k (hat.suffix hsf) (by omega)
  | err kk x =>
   intro i w d ns neg y2 k hat hk
   obtain ⟨k, rfl⟩ : ∃ k', k = k' + 1 := ⟨k - 1, by omega⟩
   obtain ⟨a, b, c, e1⟩ := step k neg first i w d ns y2 p l hat hf
   have h2 := span_ok (w := w) (ns := ns) (d := d) K hat hK (syr_class_l0 K k) neg a b c y2 p
   rw [hs] at h2
   simp only [SpanR] at h2
   obtain ⟨q, i', e2, h3, h4⟩ := ihs _ w d ns neg y2 k (hat.suffix hsf) (by omega)
   have := hat.len
   exact ⟨q, i', by rw [e1, h2, e2], by omega, h4⟩
 | _ => intro _ _ hg; cases hg
end
end Go.Rv
namespace Go.Rv
def OutE (s : ByteArray) (ns : List aNd) (d : Int) (l : List Nat) (c k : Nat) (x : List Nat) (f : Option (Int × syp)) : Prop :=
 ∃ (a : Int) (i' : Nat) (ns' : List aNd), f = some (a, pst s (i' : Int) ((s.size - x.length : Nat) : Int) k ns' d) ∧ i' ≤ s.size ∧ ns'.length ≤ ns.length + 4 * l.length + c
def Out (s : ByteArray) (ns : List aNd) (d w : Int) (l : List Nat) (c : Nat) (f : Option (Int × syp)) : Re Pt → Prop
 | .ok t r => f = some (((ns.length + t.sz : Nat) : Int) - 1, pst s ((s.size - r.length : Nat) : Int) w 0 (ns ++ t.flat ns.length) d)
 | .err k x => OutE s ns d l c k x f
abbrev dp (n : Nat) : Int := (64 : Int) - (n : Int)
def Sim (K : Nat) (s : ByteArray) : Goal → List Nat → Re Pt → Prop
 | .alt n, l, res => ∀ (m i : Nat) (w : Int) (ns : List aNd), (n < m ∧ n ≤ 64) → At s i l → ns.length + 4 * l.length ≤ 50000 → Out s ns (dp n) w l 4 (syp_alternative_r K m (pst s i w 0 ns (dp n))) res
 | .row n, l, res => ∀ (m i : Nat) (w : Int) (ns : List aNd), (n ≤ m ∧ n ≤ 64) → At s i l → ns.length + 4 * l.length ≤ 50000 → Out s ns (dp n) w l 2 (syp_row K (syp_alternative_r K m) (pst s i w 0 ns (dp n))) res
 | .item n, l, res => ∀ (m i : Nat) (w : Int) (ns : List aNd), (n ≤ m ∧ n ≤ 64) → At s i l → ns.length + 4 * l.length ≤ 50000 → Out s ns (dp n) w l 1 (syp_item K (syp_alternative_r K m) (pst s i w 0 ns (dp n))) res
 | .atom n, l, res => ∀ (m i : Nat) (w : Int) (ns : List aNd), (n ≤ m ∧ n ≤ 64) → At s i l → ns.length + 4 * l.length ≤ 50000 → Out s ns (dp n) w l 1 (syp_atom K (syp_alternative_r K m) (pst s i w 0 ns (dp n))) res
 | .rowR n, l, res => ∀ (m i : Nat) (w : Int) (ns : List aNd) (acc : List Int) (k : Nat), (n ≤ m ∧ n ≤ 64) → At s i l → ns.length + 4 * l.length ≤ 50000 → acc.length + l.length ≤ 5000 → l.length + 1 < k →
   match res with
   | .ok f r => syp_row_l0 K (syp_alternative_r K m) k s i w 0 (dp n) ns acc = syp_row_j1 K (syp_alternative_r K m) s ((s.size - r.length : Nat) : Int) w 0 (dp n) (ns ++ f.flat ns.length) (acc ++ f.roots ns.length)
   | .err kk x => OutE s ns (dp n) l 2 kk x (syp_row_l0 K (syp_alternative_r K m) k s i w 0 (dp n) ns acc)
 | .altR n, l, res => ∀ (m i : Nat) (w : Int) (ns : List aNd) (acc : List Int) (k : Nat), (n ≤ m ∧ n ≤ 64) → At s i l → ns.length + 4 * l.length ≤ 50001 → acc.length + l.length ≤ 5000 → l.length + 1 < k →
   match res with
   | .ok f r => syp_alternative_l0 K (syp_alternative_r K m) k s i w 0 (dp n) ns acc = syp_join K (pst s ((s.size - r.length : Nat) : Int) w 0 (ns ++ f.flat ns.length) (dp n)) 4 (acc ++ f.roots ns.length)
   | .err kk x => OutE s ns (dp n) l 3 kk x (syp_alternative_l0 K (syp_alternative_r K m) k s i w 0 (dp n) ns acc)
 | .itemR t0, l, res => ∀ (rc : syp → Option (Int × syp)) (i : Nat) (w d : Int) (ns0 : List aNd) (k : Nat), At s i l → ns0.length + t0.sz + 4 * l.length ≤ 50000 → l.length + 1 < k →
   match res with
   | .ok t r => syp_item_l0 K rc k (((ns0.length + t0.sz : Nat) : Int) - 1) s i w 0 d (ns0 ++ t0.flat ns0.length) = some (((ns0.length + t.sz : Nat) : Int) - 1, pst s ((s.size - r.length : Nat) : Int) w 0 (ns0 ++ t.flat ns0.length) d)
   | .err kk x => OutE s (ns0 ++ t0.flat ns0.length) d l 1 kk x (syp_item_l0 K rc k (((ns0.length + t0.sz : Nat) : Int) - 1) s i w 0 d (ns0 ++ t0.flat ns0.length))
 | .spans _ _, _, _ => True
theorem z4_same (a : Arr4) : Arr4.same a ⟨0, 0, 0, 0⟩ = decide (a = z4) := by
 rw [Bool.eq_iff_iff, same_iff, decide_eq_true_eq]
section
variable (K : Nat) {s : ByteArray} {i : Nat} {w : Int} {ns : List aNd} {d : Int}
theorem notC (hK : 1200 ≤ K) (neg : Bool) (q : Nat → Bool) {β : Type} (f : Arr4 → Option β) : (bif neg then (bset_Not K (st q)).bind f else f (st q)) = f (st (notS neg q)) := by
 cases neg with
 | false => rfl
 | true => simp only [cT, Not_spec K (by omega), bS]; rfl
theorem cls2_ok (hK : 1200 ≤ K) {c : Nat} {r : List Nat} (h : At s i (c :: r)) (neg : Bool) (q : Nat → Bool) (y2 : Arr4) : syr_class_j2 K neg s i w 0 d ns y2 (st q) = if st (notS neg q) = z4 then some (st (notS neg q), pst s i (i : Int) 44 ns d) else some (st (notS neg q), pst s ((i + 1 : Nat) : Int) w 0 ns d) := by
 rw [syr_class_j2, notC K hK neg q (fun v => syr_class_j3 K s i w 0 d ns y2 v), syr_class_j3, z4_same]
 by_cases hz : st (notS neg q) = z4
 ·rw [decide_eq_true hz, if_pos hz]
  simp only [cT, fail_ok, bS, syr_class_j4]
  rw [next_bad K (e := 44) (by decide), bS]
 ·rw [decide_eq_false hz, if_neg hz]
  simp only [cF, syr_class_j4]
  rw [next_cons K h, bS]
theorem cls2_bad (hK : 1200 ≤ K) {i e : Int} (he : e ≠ 0) (neg : Bool) (q : Nat → Bool) (y2 : Arr4) : ∃ S, syr_class_j2 K neg s i w e d ns y2 (st q) = some (S, pst s i w e ns d) := by
 refine ⟨st (notS neg q), ?_⟩
 rw [syr_class_j2, notC K hK neg q (fun v => syr_class_j3 K s i w e d ns y2 v), syr_class_j3]
 cases Arr4.same (st (notS neg q)) ⟨0, 0, 0, 0⟩ with
 | true => simp only [cT, fail_bad K he, bS, syr_class_j4, next_bad K he]
 | false => simp only [cF, bS, syr_class_j4, next_bad K he]
theorem class_head {l : List Nat} (h : At s i (91 :: l)) (hK : 1200 ≤ K) : ∃ i' : Nat, At s i' (clsHead l).2 ∧ i < i' ∧ syr_class K (pst s i w 0 ns d) = syr_class_l0 K K (clsHead l).1 true s i' w 0 d ns z4 (st fun _ => false) := by
 have ht := h.tail
 rw [syr_class, next_cons K h, bS]
 simp only
 by_cases hh : l.head? = some 94
 ·obtain ⟨r, rfl⟩ : ∃ r, l = 94 :: r := by
   cases l with
   | nil => cases hh
   | cons c r => simp at hh; exact ⟨r, by rw [hh]⟩
  rw [show (94 : Int) = ((94 : Nat) : Int) from rfl, skip_yes K ht, bS]
  refine ⟨i + 1 + 1, ht.tail, by omega, ?_⟩
  rw [← st_none]
  rfl
 ·rw [show (94 : Int) = ((94 : Nat) : Int) from rfl, skip_no K ht hh, bS]
  have hc : clsHead l = (false, l) := by
   unfold clsHead
   split
   ·exact absurd rfl hh
   ·rfl
  rw [hc]
  refine ⟨i + 1, ht, by omega, ?_⟩
  rw [← st_none]
theorem row_j1_any (rc : syp → Option (Int × syp)) (i w e d : Int) (ns : List aNd) (acc : List Int) (hn : ns.length ≤ 100000) : ∃ a ns', syp_row_j1 K rc s i w e d ns acc = some (a, pst s i w e ns' d) ∧ ns'.length ≤ ns.length + 1 := by
 rw [syp_row_j1]
 cases ((acc.length : Int) == 0) with
 | true => exact ⟨(ns.length : Int), ns ++ [_], by simp only [cT]; rw [put_ok K (pst s i w e ns d) _ hn]; rfl, by simp⟩
 | false =>
  simp only [cF]
  by_cases h1 : acc.length = 1
  ·obtain ⟨a, rfl⟩ : ∃ a, acc = [a] := List.length_eq_one_iff.1 h1
   exact ⟨a, ns, by rw [join_one]; rfl, by omega⟩
  ·exact ⟨(ns.length : Int), ns ++ [_], by rw [join_ok K (pst s i w e ns d) 3 acc h1 hn]; rfl, by simp⟩
theorem row_l0_bad (rc : syp → Option (Int × syp)) (i w e d : Int) (he : e ≠ 0) (ns : List aNd) (acc : List Int) (hn : ns.length ≤ 100000) (k : Nat) (hk : 0 < k) : ∃ a ns', syp_row_l0 K rc k s i w e d ns acc = some (a, pst s i w e ns' d) ∧ ns'.length ≤ ns.length + 1 := by
 obtain ⟨k, rfl⟩ : ∃ k', k = k' + 1 := ⟨k - 1, by omega⟩
 rw [syp_row_l0]
 dsimp only
 rw [peek_bad K he, bS]
 exact row_j1_any K rc i w e d ns acc hn
theorem alt_l0_bad (rc : syp → Option (Int × syp)) (i w e d : Int) (he : e ≠ 0) (ns : List aNd) (acc : List Int) (hn : ns.length ≤ 100000) (k : Nat) (hk : 0 < k) : ∃ a ns', syp_alternative_l0 K rc k s i w e d ns acc = some (a, pst s i w e ns' d) ∧ ns'.length ≤ ns.length + 1 := by
 obtain ⟨k, rfl⟩ : ∃ k', k = k' + 1 := ⟨k - 1, by omega⟩
 rw [syp_alternative_l0]
 dsimp only
 rw [skip_bad K he, bS]
 simp only [cF]
 by_cases h1 : acc.length = 1
 ·obtain ⟨a, rfl⟩ : ∃ a, acc = [a] := List.length_eq_one_iff.1 h1
  exact ⟨a, ns, by rw [join_one]; rfl, by omega⟩
 ·exact ⟨(ns.length : Int), ns ++ [_], by rw [join_ok K (pst s i w e ns d) 4 acc h1 hn]; rfl, by simp⟩
theorem item_l0_bad (rc : syp → Option (Int × syp)) (a i w e d : Int) (he : e ≠ 0) (ns : List aNd) (k : Nat) (hk : 0 < k) : syp_item_l0 K rc k a s i w e d ns = some (a, pst s i w e ns d) := by
 obtain ⟨k, rfl⟩ : ∃ k', k = k' + 1 := ⟨k - 1, by omega⟩
 rw [syp_item_l0]
 dsimp only
 rw [times_bad K he, bS]
 rfl
theorem eqn (c m : Nat) : ((c : Int) == (m : Int)) = decide (c = m) := by
 rw [Bool.eq_iff_iff, beq_iff_eq, decide_eq_true_eq]; omega
theorem nen (c m : Nat) : ((c : Int) != (m : Int)) = !decide (c = m) := by
 rw [bne, eqn]
theorem j2_ok (hK : 1200 ≤ K) (rc : syp → Option (Int × syp)) {l : List Nat} (h : At s i l) (hn : ns.length + 4 * l.length ≤ 50000) : Out s ns d w l 1 (syp_atom_j2 K rc (pst s i w 0 ns d)) (match pOne l with
   | .ok b r => .ok (.set (st fun x => x == b)) r
   | .err k w => .err k w) := by
 have h1 := one_ok (w := w) (ns := ns) (d := d) K h
 rw [syp_atom_j2]
 cases hq : pOne l with
 | ok b r =>
  rw [hq] at h1
  simp only [RdN] at h1
  rw [h1.1, bS]
  simp only
  rw [Of1 K (by omega) b h1.2.1, bS, bytes_ok K _ _ (by simp only; omega), bS]
  simp only [Out, Pt.sz, Pt.flat]
  congr 2
  omega
 | err k x =>
  rw [hq] at h1
  simp only [RdN] at h1
  obtain ⟨⟨b, i', e1, hb, h2, h3⟩, h4⟩ := h1
  rw [e1, bS]
  simp only
  rw [Of1 K (by omega) b hb, bS, bytes_ok K _ _ (by simp only; omega), bS]
  exact ⟨_, i', _, rfl, h3, by simp only [List.length_append, List.length_cons, List.length_nil]; omega⟩
theorem leaf_ok (hK : 1200 ≤ K) (rc : syp → Option (Int × syp)) {l : List Nat} (h : At s i l) (hn : ns.length + 4 * l.length ≤ 50000) (h40 : l.head? ≠ some 40) (h91 : l.head? ≠ some 91) : Out s ns d w l 1 (syp_atom K rc (pst s i w 0 ns d)) (pLeaf l) := by
 have hj2 := j2_ok (w := w) (ns := ns) (d := d) K hK rc h hn
 have hl := h.len
 rw [syp_atom]
 cases l with
 | nil =>
  rw [peek_nil K h, bS]
  have e1 : ((0 : Int) == 40) = false := rfl
  have e2 : ((0 : Int) == 91) = false := rfl
  have e3 : ((0 : Int) == 46) = false := rfl
  have e4 : ((0 : Int) == 123) = false := rfl
  have e5 : ((0 : Int) == 47) = false := rfl
  have e6 : ((0 : Int) == 36) = false := rfl
  have e7 : ((0 : Int) != 92) = true := rfl
  obtain ⟨e8, e9⟩ := sspec K 0 (by decide)
  have e8' := e8
  simp only [Int.ofNat_zero, show ((0 : Nat) : Int) = 0 from rfl] at e8' e9
  simp only [e1, e2, e3, e4, cF, syp_atom_j0, e5, e6, e7, cT]
  rw [e8', bS, e9]
  exact hj2
 | cons c r =>
  have hc := h.c256
  have ht := h.tail
  have htl := ht.len
  simp only [List.length_cons] at hl hn
  have hp1 : i + 1 = s.size - r.length := by omega
  simp only [List.head?_cons, ne_eq, Option.some.injEq] at h40 h91
  rw [peek_cons K h, bS]
  have e1 : ((c : Int) == 40) = false := by rw [show (40 : Int) = ((40 : Nat) : Int) from rfl, eqn]; simpa using h40
  have e2 : ((c : Int) == 91) = false := by rw [show (91 : Int) = ((91 : Nat) : Int) from rfl, eqn]; simpa using h91
  have e3 : ((c : Int) == 46) = decide (c = 46) := eqn c 46
  have e4 : ((c : Int) == 123) = decide (c = 123) := eqn c 123
  have e5 : ((c : Int) == 47) = decide (c = 47) := eqn c 47
  have e6 : ((c : Int) == 36) = decide (c = 36) := eqn c 36
  have e7 : ((c : Int) != 92) = !decide (c = 92) := nen c 92
  obtain ⟨e8, e9⟩ := sspec K c hc
  simp only [e1, e2, cF, e3]
  have hfail : ∀ k : Nat, Out s ns d w (c :: r) 1 ((syr_fail K (pst s i w 0 ns d) (k : Int) i).bind fun v => some ((0 : Int), v)) (.err k (c :: r)) := fun k => by
   rw [fail_ok, bS]
   refine ⟨0, i, ns, ?_, h.1, by omega⟩
   simp only [List.length_cons, show s.size - (r.length + 1) = i by omega]
  have hrest : ¬ (c = 123 ∧ digNext r = false) → c ≠ 46 → Out s ns d w (c :: r) 1 (syp_atom_j0 K rc (c : Int) (pst s i w 0 ns d)) (pLeaf (c :: r)) := by
   intro h123 h46
   rw [syp_atom_j0, e5, e6, e7, e8]
   unfold pLeaf
   simp only [h46, h123, if_false]
   by_cases h47 : c = 47
   ·simp only [h47, decide_true, cT, true_or, if_true]
    subst h47
    exact hfail 42
   simp only [h47, decide_false, cF, false_or]
   by_cases h36 : c = 36
   ·simp only [h36, decide_true, cT, if_true]
    subst h36
    exact hfail 42
   simp only [h36, decide_false, cF, if_false, bS, e9]
   by_cases h92 : c = 92
   ·simp only [h92, decide_true, Bool.not_true, cF, ne_eq, not_true_eq_false, false_and, if_false]
    subst h92
    exact hj2
   simp only [h92, decide_false, Bool.not_false, cT, ne_eq, not_false_eq_true, true_and]
   cases hsp : specN c with
   | true => simp only [cT, if_true]; exact hfail 41
   | false => simp only [cF, Bool.false_eq_true, if_false]; exact hj2
  by_cases h46 : c = 46
  ·subst h46
   simp only [decide_true, cT, pLeaf, if_true]
   rw [next_cons K h, bS]
   have h10 := Of1 K (by omega) 10 (by decide)
   simp only
   rw [show (10 : Int) = ((10 : Nat) : Int) from rfl, h10, bS, Not_spec K (by omega), bS, bytes_ok K _ _ (by simp only; omega), bS]
   simp only [Out, Pt.sz, Pt.flat, hp1]
   congr 2
   omega
  simp only [h46, decide_false, cF, e4]
  by_cases h123 : c = 123
  ·subst h123
   simp only [decide_true, cT]
   rw [dig1 K h, bS]
   simp only [List.drop_one, List.tail_cons]
   cases hdg : digNext r with
   | true =>
    simp only [Bool.not_true, cF]
    exact hrest (by rw [hdg]; simp) h46
   | false =>
    simp only [Bool.not_false, cT]
    have hnm := name_ok (w := w) (ns := ns) (d := d) K h hK
    have hpl : pLeaf (123 :: r) = pName r := by simp [pLeaf, hdg]
    rw [hpl]
    cases hq : pName r with
    | ok t r' =>
     rw [hq] at hnm
     simp only at hnm
     obtain ⟨nm, rfl, e1, hsf⟩ := hnm
     rw [e1, bS]
     simp only
     rw [put_ok K _ _ (by simp only; omega), bS]
     simp only [Out, Pt.sz, Pt.flat]
     congr 2
     omega
    | err k x =>
     rw [hq] at hnm
     simp only at hnm
     obtain ⟨b, i', e1, h2, h3, h4⟩ := hnm
     rw [e1, bS]
     simp only
     rw [put_ok K _ _ (by simp only; omega), bS]
     exact ⟨_, i', _, rfl, h3, by simp only [List.length_append, List.length_cons, List.length_nil]; omega⟩
  ·simp only [h123, decide_false, cF]
   exact hrest (fun hh => h123 hh.1) h46
end
end Go.Rv
namespace Go.Rv
theorem stop_peek (K : Nat) {s : ByteArray} {i : Nat} {w d : Int} {ns : List aNd} {l : List Nat} (h : At s i l) (rc : syp → Option (Int × syp)) (acc : List Int) (k : Nat) :
  syp_row_l0 K rc (k + 1) s i w 0 d ns acc = if stopN l = true then syp_row_j1 K rc s i w 0 d ns acc else (syp_item K rc (pst s i w 0 ns d)).bind fun v => (ck (roomy 8 (acc.length + [v.1].length) = true)).bind fun _ => syp_row_l0 K rc k v.2.reader.s v.2.reader.at_ v.2.reader.where_ v.2.reader.e v.2.deep v.2.nodes (acc ++ [v.1]) := by
 rw [syp_row_l0]
 dsimp only
 cases l with
 | nil =>
  rw [peek_nil K h, bS]
  simp [stopN]
 | cons c r =>
  rw [peek_cons K h, bS]
  have e1 : ((c : Int) == 124) = decide (c = 124) := eqn c 124
  have e2 : ((c : Int) == 41) = decide (c = 41) := eqn c 41
  simp only [Bool.not_true, cF, e1, e2, stopN]
  by_cases h1 : c = 124
  ·simp [h1]
  ·by_cases h2 : c = 41
   ·simp [h2]
   ·simp [h1, h2]
theorem roomy8 {n : Nat} (h : n ≤ 100000) : roomy 8 (n + 1) = true := by
 rw [roomy_iff]
 simp only [maxLen]
 omega
theorem row_end (K : Nat) (rc : syp → Option (Int × syp)) (s : ByteArray) (i w d : Int) (ns : List aNd) (f : Pt) (hn : (ns ++ f.flat ns.length).length ≤ 100000) (hf : f = .nil ∨ ∃ t g, f = .cons t g ∧ (g = .nil ∨ ∃ t' g', g = .cons t' g')) :
  syp_row_j1 K rc s i w 0 d (ns ++ f.flat ns.length) ([] ++ f.roots ns.length) = some (((ns.length + (joinR f).sz : Nat) : Int) - 1, pst s i w 0 (ns ++ (joinR f).flat ns.length) d) := by
 rw [syp_row_j1]
 rcases hf with rfl | ⟨t, g, rfl, rfl | ⟨t', g', rfl⟩⟩
 ·simp only [Pt.flat, Pt.roots, List.append_nil, joinR, Pt.sz, List.length_nil]
  simp only [show (((0 : Nat) : Int) == 0) = true from rfl, cT]
  rw [put_ok K (pst s i w 0 ns d) _ (by simpa [Pt.flat] using hn)]
  simp only [bS]
  congr 2
  omega
 ·simp only [Pt.flat, Pt.roots, List.append_nil, joinR, Pt.sz, List.nil_append, List.length_cons, List.length_nil]
  simp only [show (((0 + 1 : Nat) : Int) == 0) = false from rfl, cF]
  rw [join_one]
  rfl
 ·have e1 : (((([] : List Int) ++ (Pt.cons t (.cons t' g')).roots ns.length).length : Nat) : Int) = ((g'.len + 2 : Nat) : Int) := by
   rw [List.nil_append, Pt.roots_len]; rfl
  rw [e1, show (((g'.len + 2 : Nat) : Int) == 0) = false by simp; omega, cF]
  rw [join_ok K (pst s i w 0 _ d) 3 _ (by rw [List.nil_append, Pt.roots_len]; simp [Pt.len]) hn]
  simp only [bS, joinR, List.nil_append, List.length_append, Pt.flat_len]
  have e2 : (Pt.cat (.cons t (.cons t' g'))).flat ns.length = (Pt.cons t (.cons t' g')).flat ns.length ++ [⟨3, z4, (Pt.cons t (.cons t' g')).roots ns.length, 0, 0, noB⟩] := rfl
  have e3 : (Pt.cat (.cons t (.cons t' g'))).sz = (Pt.cons t (.cons t' g')).sz + 1 := rfl
  rw [e2, e3, List.append_assoc]
  congr 2
  omega
theorem rows_shape {g : Goal} {l : List Nat} {res : Re Pt} (h : PR g l res) : ∀ {n f r}, g = .rowR n ∨ g = .altR n → res = .ok f r → f = .nil ∨ ∃ t g, f = .cons t g ∧ (g = .nil ∨ ∃ t' g', g = .cons t' g') := by
 induction h with
 | altR0 => intro _ _ _ _ h; cases h; exact .inl rfl
 | altR1 _ _ _ ih =>
  intro _ _ _ _ h
  cases h
  refine .inr ⟨_, _, rfl, ?_⟩
  rcases ih (.inr rfl) rfl with h | ⟨t, g, h, _⟩
  ·exact .inl h
  ·exact .inr ⟨t, g, h⟩
 | rowR0 => intro _ _ _ _ h; cases h; exact .inl rfl
 | rowR1 _ _ _ _ ih =>
  intro _ _ _ _ h
  cases h
  refine .inr ⟨_, _, rfl, ?_⟩
  rcases ih (.inl rfl) rfl with h | ⟨t, g, h, _⟩
  ·exact .inl h
  ·exact .inr ⟨t, g, h⟩
 | altRE => intro _ _ _ _ h; cases h
 | altRE2 => intro _ _ _ _ h; cases h
 | rowRE => intro _ _ _ _ h; cases h
 | rowRE2 => intro _ _ _ _ h; cases h
 | _ => intro _ _ _ h; rcases h with h | h <;> cases h
theorem sim (K : Nat) (hK : 6000 ≤ K) (s : ByteArray) {g : Goal} {l : List Nat} {res : Re Pt} (h : PR g l res) : Sim K s g l res := by
 induction h with
 | @altE n l k x hp ih =>
  intro m i w ns hm hat hn
  obtain ⟨m, rfl⟩ : ∃ m', m = m' + 1 := ⟨m - 1, by omega⟩
  have hk := hp.suf.2.1
  obtain ⟨a, i', ns', e1, h1, h2⟩ := ih m i w ns (by omega) hat hn
  rw [syp_alternative_r, syp_alternative_b, e1, bS]
  have hl := hat.len
  have hsm := hat.small
  obtain ⟨b, ns2, e2, h3⟩ := alt_l0_bad K (syp_alternative_r K m) i' ((s.size - x.length : Nat) : Int) k (dp n) (by omega) ns' [a] (by omega) K (by omega) (s := s)
  exact ⟨b, i', ns2, e2, h1, by omega⟩
 | @altE2 n l t r k x hp hp2 ih ih2 =>
  intro m i w ns hm hat hn
  obtain ⟨m, rfl⟩ : ∃ m', m = m' + 1 := ⟨m - 1, by omega⟩
  have hsh := short hp
  have hsf := hp.suf
  simp only [Short] at hsh
  have hl := hat.len
  have hsm := hat.small
  have e1 := ih m i w ns (by omega) hat hn
  simp only [Out] at e1
  rw [Out, syp_alternative_r, syp_alternative_b, e1, bS]
  have hat2 := hat.suffix hsf
  have hfl := t.flat_len ns.length
  have e2 := ih2 m _ w (ns ++ t.flat ns.length) [((ns.length + t.sz : Nat) : Int) - 1] K (by omega) hat2 (by rw [List.length_append, hfl]; omega) (by simp; omega) (by omega)
  simp only at e2
  obtain ⟨a, i', ns', e3, h1, h2⟩ := e2
  refine ⟨a, i', ns', e3, h1, ?_⟩
  rw [List.length_append, hfl] at h2
  omega
 | @alt1 n l t r f r' hp hp2 ih ih2 =>
  intro m i w ns hm hat hn
  obtain ⟨m, rfl⟩ : ∃ m', m = m' + 1 := ⟨m - 1, by omega⟩
  have hsh := short hp
  have hsh2 := short hp2
  have hsf := hp.suf
  simp only [Short] at hsh hsh2
  have hl := hat.len
  have hsm := hat.small
  have e1 := ih m i w ns (by omega) hat hn
  simp only [Out] at e1
  rw [Out, syp_alternative_r, syp_alternative_b, e1, bS]
  have hat2 := hat.suffix hsf
  have hfl := t.flat_len ns.length
  have e2 := ih2 m _ w (ns ++ t.flat ns.length) [((ns.length + t.sz : Nat) : Int) - 1] K (by omega) hat2 (by rw [List.length_append, hfl]; omega) (by simp; omega) (by omega)
  simp only at e2
  simp only
  rw [e2, List.length_append, hfl]
  rcases rows_shape hp2 (.inr rfl) rfl with rfl | ⟨t', g', rfl, _⟩
  ·simp only [Pt.flat, Pt.roots, List.append_nil, joinA]
   rw [join_one]
  ·have e4 : ((Pt.cons t' g').roots (ns.length + t.sz)).length = g'.len + 1 := by rw [Pt.roots_len]; rfl
   rw [join_ok K _ 4 _ (by simp only [List.length_append, List.length_cons, List.length_nil, e4]; omega) (by simp only [List.length_append, Pt.flat_len]; omega)]
   simp only [joinA, List.length_append, Pt.flat_len]
   have e5 : (Pt.alt (.cons t (.cons t' g'))).flat ns.length = t.flat ns.length ++ (Pt.cons t' g').flat (ns.length + t.sz) ++ [⟨4, z4, (((ns.length + t.sz : Nat) : Int) - 1) :: (Pt.cons t' g').roots (ns.length + t.sz), 0, 0, noB⟩] := rfl
   have e6 : (Pt.alt (.cons t (.cons t' g'))).sz = t.sz + (Pt.cons t' g').sz + 1 := rfl
   rw [e5, e6]
   simp only [List.append_assoc, List.cons_append, List.nil_append]
   congr 2
   omega
 | @altR0 n l hh =>
  intro m i w ns acc k hm hat hn ha hk
  obtain ⟨k, rfl⟩ : ∃ k', k = k' + 1 := ⟨k - 1, by omega⟩
  simp only
  rw [syp_alternative_l0]
  dsimp only
  rw [show (124 : Int) = ((124 : Nat) : Int) from rfl, skip_no K hat hh, bS]
  simp only [cF, Pt.flat, Pt.roots, List.append_nil]
  rw [at_end s i l hat]
  cases syp_join K (pst s ((s.size - l.length : Nat) : Int) w 0 ns (dp n)) 4 acc <;> rfl
 | @altRE n l k x hp ih =>
  intro m i w ns acc kk hm hat hn ha hk
  obtain ⟨kk, rfl⟩ : ∃ k', kk = k' + 1 := ⟨kk - 1, by omega⟩
  have hk0 := hp.suf.2.1
  have hl := hat.len
  have hsm := hat.small
  simp only [List.length_cons] at hl hn ha hk
  obtain ⟨a, i', ns', e1, h1, h2⟩ := ih m (i + 1) w ns hm hat.tail (by omega)
  simp only
  rw [syp_alternative_l0]
  dsimp only
  rw [show (124 : Int) = ((124 : Nat) : Int) from rfl, skip_yes K hat, bS]
  simp only [cT]
  rw [e1, bS, ck_pos (by simp only [List.length_cons, List.length_nil]; exact roomy8 (by omega))]
  obtain ⟨b, ns2, e2, h3⟩ := alt_l0_bad K (syp_alternative_r K m) i' ((s.size - x.length : Nat) : Int) k (dp n) (by omega) ns' (acc ++ [a]) (by omega) kk (by omega) (s := s)
  exact ⟨b, i', ns2, e2, h1, by simp only [List.length_cons]; omega⟩
 | @altRE2 n l t r k x hp hp2 ih ih2 =>
  intro m i w ns acc kk hm hat hn ha hk
  obtain ⟨kk, rfl⟩ : ∃ k', kk = k' + 1 := ⟨kk - 1, by omega⟩
  have hsh := short hp
  have hsf := hp.suf
  simp only [Short] at hsh
  have hl := hat.len
  have hsm := hat.small
  simp only [List.length_cons] at hl hn ha hk
  have e1 := ih m (i + 1) w ns hm hat.tail (by omega)
  simp only [Out] at e1
  simp only
  rw [syp_alternative_l0]
  dsimp only
  rw [show (124 : Int) = ((124 : Nat) : Int) from rfl, skip_yes K hat, bS]
  simp only [cT]
  rw [e1, bS, ck_pos (by simp only [List.length_cons, List.length_nil]; exact roomy8 (by omega))]
  have hfl := t.flat_len ns.length
  have e2 := ih2 m _ w (ns ++ t.flat ns.length) (acc ++ [((ns.length + t.sz : Nat) : Int) - 1]) kk hm (hat.tail.suffix hsf) (by rw [List.length_append, hfl]; omega) (by simp only [List.length_append, List.length_cons, List.length_nil]; omega) (by omega)
  simp only at e2
  obtain ⟨a, i', ns', e3, h1, h2⟩ := e2
  rw [List.length_append, hfl] at h2
  exact ⟨a, i', ns', e3, h1, by simp only [List.length_cons]; omega⟩
 | @altR1 n l t r f r' hp hp2 ih ih2 =>
  intro m i w ns acc kk hm hat hn ha hk
  obtain ⟨kk, rfl⟩ : ∃ k', kk = k' + 1 := ⟨kk - 1, by omega⟩
  have hsh := short hp
  have hsf := hp.suf
  simp only [Short] at hsh
  have hl := hat.len
  have hsm := hat.small
  simp only [List.length_cons] at hl hn ha hk
  have e1 := ih m (i + 1) w ns hm hat.tail (by omega)
  simp only [Out] at e1
  simp only
  rw [syp_alternative_l0]
  dsimp only
  rw [show (124 : Int) = ((124 : Nat) : Int) from rfl, skip_yes K hat, bS]
  simp only [cT]
  rw [e1, bS, ck_pos (by simp only [List.length_cons, List.length_nil]; exact roomy8 (by omega))]
  have hfl := t.flat_len ns.length
  have e2 := ih2 m _ w (ns ++ t.flat ns.length) (acc ++ [((ns.length + t.sz : Nat) : Int) - 1]) kk hm (hat.tail.suffix hsf) (by rw [List.length_append, hfl]; omega) (by simp only [List.length_append, List.length_cons, List.length_nil]; omega) (by omega)
  simp only at e2
  simp only
  rw [e2, List.length_append, hfl]
  simp only [Pt.flat, Pt.roots, List.append_assoc, List.cons_append, List.nil_append]
 | @rowE n l k x hp ih =>
  intro m i w ns hm hat hn
  have hl := hat.len
  have hsm := hat.small
  exact ih m i w ns [] K hm hat hn (by simp; omega) (by omega)
 | @row1 n l f r hp ih =>
  intro m i w ns hm hat hn
  have hl := hat.len
  have hsm := hat.small
  have hsh := short hp
  simp only [Short] at hsh
  have e1 := ih m i w ns [] K hm hat hn (by simp; omega) (by omega)
  simp only at e1
  rw [Out, syp_row]
  simp only
  rw [e1]
  exact row_end K _ s _ w _ ns f (by rw [List.length_append, Pt.flat_len]; omega) (rows_shape hp (.inl rfl) rfl)
 | @rowR0 n l hst =>
  intro m i w ns acc k hm hat hn ha hk
  obtain ⟨k, rfl⟩ : ∃ k', k = k' + 1 := ⟨k - 1, by omega⟩
  simp only
  rw [stop_peek K hat, if_pos hst]
  simp only [Pt.flat, Pt.roots, List.append_nil]
  rw [at_end s i l hat]
 | @rowRE n l k x hst hp ih =>
  intro m i w ns acc kk hm hat hn ha hk
  obtain ⟨kk, rfl⟩ : ∃ k', kk = k' + 1 := ⟨kk - 1, by omega⟩
  have hk0 := hp.suf.2.1
  have hl := hat.len
  have hsm := hat.small
  obtain ⟨a, i', ns', e1, h1, h2⟩ := ih m i w ns hm hat hn
  simp only
  rw [stop_peek K hat, if_neg (by simp [hst]), e1, bS, ck_pos (by simp only [List.length_cons, List.length_nil]; exact roomy8 (by omega))]
  obtain ⟨b, ns2, e2, h3⟩ := row_l0_bad K (syp_alternative_r K m) i' ((s.size - x.length : Nat) : Int) k (dp n) (by omega) ns' (acc ++ [a]) (by omega) kk (by omega) (s := s)
  exact ⟨b, i', ns2, e2, h1, by omega⟩
 | @rowRE2 n l t r k x hst hp hp2 ih ih2 =>
  intro m i w ns acc kk hm hat hn ha hk
  obtain ⟨kk, rfl⟩ : ∃ k', kk = k' + 1 := ⟨kk - 1, by omega⟩
  have hsh := short hp
  have hsf := hp.suf
  simp only [Short] at hsh
  have hl := hat.len
  have hsm := hat.small
  have e1 := ih m i w ns hm hat hn
  simp only [Out] at e1
  simp only
  rw [stop_peek K hat, if_neg (by simp [hst]), e1, bS, ck_pos (by simp only [List.length_cons, List.length_nil]; exact roomy8 (by omega))]
  have hfl := t.flat_len ns.length
  have e2 := ih2 m _ w (ns ++ t.flat ns.length) (acc ++ [((ns.length + t.sz : Nat) : Int) - 1]) kk hm (hat.suffix hsf) (by rw [List.length_append, hfl]; omega) (by simp only [List.length_append, List.length_cons, List.length_nil]; omega) (by omega)
  simp only at e2
  obtain ⟨a, i', ns', e3, h1, h2⟩ := e2
  rw [List.length_append, hfl] at h2
  exact ⟨a, i', ns', e3, h1, by omega⟩
 | @rowR1 n l t r f r' hst hp hp2 ih ih2 =>
  intro m i w ns acc kk hm hat hn ha hk
  obtain ⟨kk, rfl⟩ : ∃ k', kk = k' + 1 := ⟨kk - 1, by omega⟩
  have hsh := short hp
  have hsf := hp.suf
  simp only [Short] at hsh
  have hl := hat.len
  have hsm := hat.small
  have e1 := ih m i w ns hm hat hn
  simp only [Out] at e1
  simp only
  rw [stop_peek K hat, if_neg (by simp [hst]), e1, bS, ck_pos (by simp only [List.length_cons, List.length_nil]; exact roomy8 (by omega))]
  have hfl := t.flat_len ns.length
  have e2 := ih2 m _ w (ns ++ t.flat ns.length) (acc ++ [((ns.length + t.sz : Nat) : Int) - 1]) kk hm (hat.suffix hsf) (by rw [List.length_append, hfl]; omega) (by simp only [List.length_append, List.length_cons, List.length_nil]; omega) (by omega)
  simp only at e2
  simp only
  rw [e2, List.length_append, hfl]
  simp only [Pt.flat, Pt.roots, List.append_assoc, List.cons_append, List.nil_append]
 | @itemE n l k x hp ih =>
  intro m i w ns hm hat hn
  have hk0 := hp.suf.2.1
  obtain ⟨a, i', ns', e1, h1, h2⟩ := ih m i w ns hm hat hn
  rw [Out, syp_item, e1, bS]
  simp only
  rw [item_l0_bad K _ a i' _ k (dp n) (by omega) ns' K (by omega)]
  exact ⟨a, i', ns', rfl, h1, h2⟩
 | @item1 n l t r res hp hp2 ih ih2 =>
  intro m i w ns hm hat hn
  have hsh := short hp
  have hsf := hp.suf
  simp only [Short] at hsh
  have hl := hat.len
  have hsm := hat.small
  have e1 := ih m i w ns hm hat hn
  simp only [Out] at e1
  rw [syp_item, e1, bS]
  simp only
  have e2 := ih2 (syp_alternative_r K m) _ w (dp n) ns K (hat.suffix hsf) (by omega) (by omega)
  cases res with
  | ok t' r' => exact e2
  | err k x =>
   simp only at e2
   obtain ⟨a, i', ns', e3, h1, h2⟩ := e2
   rw [List.length_append, Pt.flat_len] at h2
   exact ⟨a, i', ns', e3, h1, by omega⟩
 | @itemR0 t l ht =>
  intro rc i w d ns0 k hat hn hk
  obtain ⟨k, rfl⟩ : ∃ k', k = k' + 1 := ⟨k - 1, by omega⟩
  have h1 := times_ok (w := w) (ns := ns0 ++ t.flat ns0.length) (d := d) K hat (by omega)
  rw [ht] at h1
  simp only [RdT] at h1
  simp only
  rw [syp_item_l0]
  dsimp only
  rw [h1, bS]
  simp only [Bool.not_false, cT]
  rw [at_end s i l hat]
 | @itemRE t l k x ht =>
  intro rc i w d ns0 kk hat hn hk
  obtain ⟨kk, rfl⟩ : ∃ k', kk = k' + 1 := ⟨kk - 1, by omega⟩
  have h1 := times_ok (w := w) (ns := ns0 ++ t.flat ns0.length) (d := d) K hat (by omega)
  rw [ht] at h1
  simp only [RdT] at h1
  obtain ⟨⟨lo, hi, i', e1, h2, h3⟩, h4, h5⟩ := h1
  simp only
  rw [syp_item_l0]
  dsimp only
  rw [e1, bS]
  simp only [Bool.not_true, cF]
  rw [put_ok K _ _ (by simp only [List.length_append, Pt.flat_len]; omega), bS]
  simp only
  rw [item_l0_bad K _ _ i' _ k d (by omega) _ kk (by omega)]
  exact ⟨_, i', _, rfl, h3, by simp only [List.length_append, List.length_cons, List.length_nil]; omega⟩
 | @itemR1 t l lo hi r res ht hp ih =>
  intro rc i w d ns0 kk hat hn hk
  obtain ⟨kk, rfl⟩ : ∃ k', kk = k' + 1 := ⟨kk - 1, by omega⟩
  have hlt := pTimes_ok ht
  have hsf := pTimes_suf ht
  have h1 := times_ok (w := w) (ns := ns0 ++ t.flat ns0.length) (d := d) K hat (by omega)
  rw [ht] at h1
  simp only [RdT] at h1
  have hstep : syp_item_l0 K rc (kk + 1) (((ns0.length + t.sz : Nat) : Int) - 1) s i w 0 d (ns0 ++ t.flat ns0.length) = syp_item_l0 K rc kk (((ns0.length + (Pt.rep t lo hi).sz : Nat) : Int) - 1) s ((s.size - r.length : Nat) : Int) w 0 d (ns0 ++ (Pt.rep t lo hi).flat ns0.length) := by
   rw [syp_item_l0]
   dsimp only
   rw [h1.1, bS]
   simp only [Bool.not_true, cF]
   rw [put_ok K _ _ (by simp only [List.length_append, Pt.flat_len]; omega), bS]
   simp only [Pt.flat, Pt.sz, List.append_assoc, List.length_append, Pt.flat_len]
   congr 1
   omega
  have e2 := ih rc _ w d ns0 kk (hat.suffix hsf) (by simp only [Pt.sz]; omega) (by omega)
  rw [← hstep] at e2
  cases res with
  | ok t' r' => exact e2
  | err k x =>
   simp only at e2
   obtain ⟨a, i', ns', e3, h2, h3⟩ := e2
   refine ⟨a, i', ns', e3, h2, ?_⟩
   simp only [List.length_append, Pt.flat_len, Pt.sz] at h3 ⊢
   omega
 | @atomG0 l =>
  intro m i w ns hm hat hn
  rw [Out, syp_atom, peek_cons K hat, bS]
  simp only [show (((40 : Nat) : Int) == 40) = true from rfl, cT]
  rw [syp_group]
  simp only [show decide (dp 0 ≥ 64) = true by decide, cT, fail_ok, bS]
  have hl := hat.len
  simp only [List.length_cons] at hl
  exact ⟨0, i, ns, by simp only [List.length_cons]; rw [show s.size - (l.length + 1) = i by omega]; rfl, hat.1, by omega⟩
 | @atomGE n l k x hp ih =>
  intro m i w ns hm hat hn
  have hk0 := hp.suf.2.1
  simp only [List.length_cons] at hn
  obtain ⟨a, i', ns', e1, h1, h2⟩ := ih m (i + 1) w ns (by omega) hat.tail (by omega)
  rw [Out, syp_atom, peek_cons K hat, bS]
  simp only [show (((40 : Nat) : Int) == 40) = true from rfl, cT]
  rw [syp_group]
  simp only [show decide (dp (n + 1) ≥ 64) = false from decide_eq_false (by simp only [dp]; omega), cF]
  rw [next_cons K hat, bS]
  simp only
  rw [show IntKind.i64.wrap (dp (n + 1) + 1) = dp n by rw [w64 (by simp only [dp]; omega) (by simp only [dp]; omega)]; simp only [dp]; omega, e1, bS]
  simp only
  rw [show IntKind.i64.wrap (dp n - 1) = dp (n + 1) by rw [w64 (by simp only [dp]; omega) (by simp only [dp]; omega)]; simp only [dp]; omega]
  rw [next_bad K (by omega), bS]
  exact ⟨a, i', ns', rfl, h1, by simp only [List.length_cons]; omega⟩
 | @atomGE2 n l t hp ih =>
  intro m i w ns hm hat hn
  have hsh := short hp
  simp only [Short, List.length_nil] at hsh
  have hat2 := hat.tail.suffix hp.suf
  simp only [List.length_cons] at hn
  have e1 := ih m (i + 1) w ns (by omega) hat.tail (by omega)
  simp only [Out] at e1
  rw [Out, syp_atom, peek_cons K hat, bS]
  simp only [show (((40 : Nat) : Int) == 40) = true from rfl, cT]
  rw [syp_group]
  simp only [show decide (dp (n + 1) ≥ 64) = false from decide_eq_false (by simp only [dp]; omega), cF]
  rw [next_cons K hat, bS]
  simp only
  rw [show IntKind.i64.wrap (dp (n + 1) + 1) = dp n by rw [w64 (by simp only [dp]; omega) (by simp only [dp]; omega)]; simp only [dp]; omega, e1, bS]
  simp only
  rw [show IntKind.i64.wrap (dp n - 1) = dp (n + 1) by rw [w64 (by simp only [dp]; omega) (by simp only [dp]; omega)]; simp only [dp]; omega]
  rw [next_nil K hat2, bS]
  exact ⟨_, _, _, rfl, by simp, by simp only [List.length_append, Pt.flat_len, List.length_cons]; omega⟩
 | @atomG n l t c r hp ih =>
  intro m i w ns hm hat hn
  have hat2 := hat.tail.suffix hp.suf
  have hl3 := hat2.tail.len
  simp only [List.length_cons] at hn
  have e1 := ih m (i + 1) w ns (by omega) hat.tail (by omega)
  simp only [Out] at e1
  rw [Out, syp_atom, peek_cons K hat, bS]
  simp only [show (((40 : Nat) : Int) == 40) = true from rfl, cT]
  rw [syp_group]
  simp only [show decide (dp (n + 1) ≥ 64) = false from decide_eq_false (by simp only [dp]; omega), cF]
  rw [next_cons K hat, bS]
  simp only
  rw [show IntKind.i64.wrap (dp (n + 1) + 1) = dp n by rw [w64 (by simp only [dp]; omega) (by simp only [dp]; omega)]; simp only [dp]; omega, e1, bS]
  simp only
  rw [show IntKind.i64.wrap (dp n - 1) = dp (n + 1) by rw [w64 (by simp only [dp]; omega) (by simp only [dp]; omega)]; simp only [dp]; omega]
  rw [next_cons K hat2, bS]
  rw [show s.size - (c :: r).length + 1 = s.size - r.length by omega]
  rfl
 | @atomC n l k x hp ih =>
  intro m i w ns hm hat hn
  have hk0 := hp.suf.2.1
  have hl := hat.len
  have hsm := hat.small
  simp only [List.length_cons] at hn
  obtain ⟨i', hat', hi', e1⟩ := class_head (w := w) (ns := ns) (d := dp n) K hat (by omega)
  have hcl := suf_len (clsHead_suf l)
  have hl' := hat'.len
  obtain ⟨q, i2, e2, h1, h2⟩ := (spans_ok K (s := s) (by omega) hp rfl) i' w (dp n) ns (clsHead l).1 z4 K hat' (by omega)
  obtain ⟨S, e3⟩ := cls2_bad (s := s) (ns := ns) (d := dp n) K (by omega) (i := i2) (w := ((s.size - x.length : Nat) : Int)) (e := k) (by omega) (clsHead l).1 q z4
  rw [Out, syp_atom, peek_cons K hat, bS]
  simp only [show (((91 : Nat) : Int) == 40) = false from rfl, show (((91 : Nat) : Int) == 91) = true from rfl, cT, cF]
  rw [e1, e2, e3, bS]
  simp only
  rw [bytes_ok K _ _ (by simp only; omega), bS]
  exact ⟨_, i2, _, rfl, h2, by simp only [List.length_append, List.length_cons, List.length_nil]; omega⟩
 | @atomC0 n l p c r hp hz ih =>
  intro m i w ns hm hat hn
  have hl := hat.len
  have hsm := hat.small
  have hsf := hp.suf
  simp only [List.length_cons] at hn
  obtain ⟨i', hat', hi', e1⟩ := class_head (w := w) (ns := ns) (d := dp n) K hat (by omega)
  have hcl := suf_len (clsHead_suf l)
  have hl' := hat'.len
  obtain ⟨q, hq, e2⟩ := spans_ok K (s := s) (by omega) hp rfl
  have e2 := e2 i' w (dp n) ns (clsHead l).1 z4 K hat' (by omega)
  have hpq : st p = st q := by simpa using hq
  have hz' : st (notS (clsHead l).1 q) = z4 := by
   rw [← hz]
   refine st_congr (fun b hb => ?_)
   have := st_inj hpq b hb
   simp only [notS, this]
  rw [Out, syp_atom, peek_cons K hat, bS]
  simp only [show (((91 : Nat) : Int) == 40) = false from rfl, show (((91 : Nat) : Int) == 91) = true from rfl, cT, cF]
  rw [e1, e2, cls2_ok K (by omega) (hat'.suffix hsf), if_pos hz', bS]
  simp only
  rw [bytes_ok K _ _ (by simp only; omega), bS]
  exact ⟨_, s.size - (c :: r).length, _, rfl, by omega, by simp only [List.length_append, List.length_cons, List.length_nil]; omega⟩
 | @atomC1 n l p c r hp hz ih =>
  intro m i w ns hm hat hn
  have hl := hat.len
  have hsm := hat.small
  have hsf := hp.suf
  simp only [List.length_cons] at hn
  obtain ⟨i', hat', hi', e1⟩ := class_head (w := w) (ns := ns) (d := dp n) K hat (by omega)
  have hcl := suf_len (clsHead_suf l)
  have hl' := hat'.len
  obtain ⟨q, hq, e2⟩ := spans_ok K (s := s) (by omega) hp rfl
  have e2 := e2 i' w (dp n) ns (clsHead l).1 z4 K hat' (by omega)
  have hpq : st p = st q := by simpa using hq
  have hz' : st (notS (clsHead l).1 q) = st (notS (clsHead l).1 p) := by
   refine st_congr (fun b hb => ?_)
   have := st_inj hpq b hb
   simp only [notS, this]
  have hat2 := hat'.suffix hsf
  have hat3 := hat2.tail
  have := hat3.len
  rw [Out, syp_atom, peek_cons K hat, bS]
  simp only [show (((91 : Nat) : Int) == 40) = false from rfl, show (((91 : Nat) : Int) == 91) = true from rfl, cT, cF]
  rw [e1, e2, cls2_ok K (by omega) hat2, hz', if_neg hz, bS]
  simp only
  rw [bytes_ok K _ _ (by simp only; omega), bS]
  simp only [Pt.sz, Pt.flat, show s.size - (c :: r).length + 1 = s.size - r.length by omega]
  congr 2
  omega
 | @atomL n l h40 h91 =>
  intro m i w ns hm hat hn
  exact leaf_ok K (by omega) _ hat hn h40 h91
 | spans0 => trivial
 | spansE => trivial
 | spans1 => trivial
end Go.Rv
namespace Go.Rv
theorem minIf (c n : Nat) : (if (c : Int) < (n : Int) then (c : Int) else (n : Int)) = ((min c n : Nat) : Int) := by
 split <;> omega
def parseOut (n : Nat) : Re Pt → List aNd × Int × Int
 | .err k x => ([], ((n - x.length : Nat) : Int), (k : Int))
 | .ok t [] => if 1024 < t.sz then ([], 0, 3) else (t.flat 0, 0, 0)
 | .ok _ (c :: r) => ([], ((n - (c :: r).length : Nat) : Int), 41)
theorem out_err (n k : Nat) (x : List Nat) : parseOut n (.err k x) = ([], ((n - x.length : Nat) : Int), (k : Int)) := rfl
theorem out_more (n : Nat) (t : Pt) (c : Nat) (r : List Nat) : parseOut n (.ok t (c :: r)) = ([], ((n - (c :: r).length : Nat) : Int), 41) := rfl
theorem out_big (n : Nat) {t : Pt} (h : 1024 < t.sz) : parseOut n (.ok t []) = ([], 0, 3) := by rw [parseOut, if_pos h]
theorem out_ok (n : Nat) {t : Pt} (h : ¬ 1024 < t.sz) : parseOut n (.ok t []) = (t.flat 0, 0, 0) := by rw [parseOut, if_neg h]
theorem Parse_long (K : Nat) {s : ByteArray} (h : 1024 < s.size) : sy_Parse K s = some ([], 0, 3) := by
 rw [sy_Parse, show decide ((s.size : Int) > 1024) = true from decide_eq_true (by omega), cT]
theorem Parse_ok (K : Nat) (hK : 6000 ≤ K) {s : ByteArray} (hs : s.size ≤ 1024) {res : Re Pt} (h : PR (.alt 64) (bs s) res) : sy_Parse K s = some (parseOut s.size res) := by
 have hat : At s 0 (bs s) := ⟨by omega, by simp, by omega⟩
 have hsf := h.suf
 have hl := hat.len
 have hsim := sim K hK s h K 0 0 [] (by omega) hat (by simp; omega)
 rw [sy_Parse, show decide ((s.size : Int) > 1024) = false from decide_eq_false (by omega), cF, syp_alternative]
 have e0 : (pst s ((0 : Nat) : Int) 0 0 [] (dp 64)) = { reader := { s := s, at_ := 0, where_ := 0, e := 0 }, nodes := [], deep := 0 } := rfl
 rw [e0] at hsim
 cases res with
 | err k x =>
  obtain ⟨a, i', ns', e1, h1, h2⟩ := hsim
  have hk := hsf.2.1
  have hk' : (k : Int) ≠ 0 := by omega
  rw [e1, bS]
  simp only
  rw [peek_bad K hk', bS]
  have : ((k : Int) != 0) = true := by simpa using hk'
  simp only [cF, sy_Parse_j0, this, cT, parseOut]
 | ok t r =>
  have hsh := short h
  simp only [Short] at hsh
  simp only [Out] at hsim
  rw [hsim, bS]
  have hat2 := hat.suffix hsf
  simp only
  cases r with
  | nil =>
   rw [peek_nil K hat2, bS]
   simp only [cF, sy_Parse_j0, bne_self_eq_false, List.nil_append, List.length_nil, Pt.flat_len, parseOut]
   by_cases hb : 1024 < t.sz
   ·rw [if_pos hb, show decide ((t.sz : Int) > 1024) = true from decide_eq_true (by omega), cT]
   ·rw [if_neg hb, show decide ((t.sz : Int) > 1024) = false from decide_eq_false (by omega), cF]
  | cons c r =>
   rw [peek_cons K hat2, bS]
   simp only [cT]
   rw [fail_ok, bS]
   simp only [sy_Parse_j0, show ((41 : Int) != 0) = true from rfl, cT, parseOut]
def Pt.wf : Bool → Pt → Prop
 | true, .empty => True
 | true, .set s => s ≠ z4
 | true, .ref nm => nameOk nm = true ∧ ∀ c ∈ nm, c < 256
 | true, .rep t lo hi => t.wf true ∧ 0 ≤ lo ∧ lo ≤ 4096 ∧ (hi = -1 ∨ (1 ≤ hi ∧ lo ≤ hi ∧ hi ≤ 4096))
 | true, .cat f => 2 ≤ f.len ∧ f.wf false
 | true, .alt f => 2 ≤ f.len ∧ f.wf false
 | false, .nil => True
 | false, .cons t f => t.wf true ∧ f.wf false
 | _, _ => False
theorem pFin_bounds {w l r : List Nat} {lo hi : Int} {bad : Bool} {x : Int × Int} (h : pFin w lo hi bad l = .ok x r) : x = (lo, hi) ∧ bad = false ∧ lo ≤ 4096 ∧ hi ≤ 4096 ∧ hi ≠ 0 ∧ ¬ (0 < hi ∧ hi < lo) := by
 unfold pFin at h
 split at h
 ·cases h
 ·split at h
  ·cases h
  ·split at h
   ·cases h
   ·rename_i hb
    cases h
    simp only [not_or, Bool.not_eq_true] at hb
    exact ⟨rfl, hb.1, by omega, by omega, hb.2.2.2.1, hb.2.2.2.2⟩
theorem pTimes_bounds {l r : List Nat} {lo hi : Int} (h : pTimes l = some (.ok (lo, hi) r)) : 0 ≤ lo ∧ lo ≤ 4096 ∧ (hi = -1 ∨ (1 ≤ hi ∧ lo ≤ hi ∧ hi ≤ 4096)) := by
 unfold pTimes at h
 split at h
 ·cases h
 ·split at h
  ·cases h; decide
  split at h
  ·cases h; decide
  split at h
  ·cases h; decide
  split at h
  ·simp only [Option.some.injEq] at h
   unfold pBounds at h
   split at h
   ·rename_i r2 he
    split at h
    ·obtain ⟨h1, h2, h3, h4, h5, h6⟩ := pFin_bounds h
     cases h1
     simp only [Bool.or_eq_false_iff, decide_eq_false_iff_not] at h2
     omega
    ·obtain ⟨h1, h2, h3, h4, h5, h6⟩ := pFin_bounds h
     cases h1
     simp only [decide_eq_false_iff_not] at h2
     omega
   ·obtain ⟨h1, h2, h3, h4, h5, h6⟩ := pFin_bounds h
    cases h1
    simp only [decide_eq_false_iff_not] at h2
    omega
  ·cases h
theorem st_ne {p : Nat → Bool} {b : Nat} (hb : b < 256) (h : p b = true) : st p ≠ z4 := fun he => by
 have he' : st p = st (fun _ => false) := he.trans st_none
 have := st_inj he' b hb
 rw [h] at this
 cases this
theorem pOne_lt {l r : List Nat} {b : Nat} (hl : ∀ c ∈ l, c < 256) (h : pOne l = .ok b r) : b < 256 := by
 unfold pOne at h
 split at h
 ·cases h
 ·rename_i c l
  split at h
  ·unfold pEsc at h
   split at h
   ·cases h
   ·rename_i c2 l
    split at h
    ·cases h; decide
    split at h
    ·cases h; decide
    split at h
    ·cases h; decide
    split at h
    ·unfold pPair at h
     split at h
     ·split at h
      ·rename_i a b ha hb
       have := hexN_lt ha
       have := hexN_lt hb
       cases h; omega
      ·cases h
     ·cases h
    split at h
    ·cases h; exact hl b (by simp)
    ·cases h
  ·cases h; exact hl b (by simp)
theorem pLeaf_wf {l r : List Nat} {t : Pt} (hl : ∀ c ∈ l, c < 256) (h : pLeaf l = .ok t r) : t.wf true := by
 unfold pLeaf at h
 split at h
 ·cases h
 ·rename_i c l
  split at h
  ·cases h
   exact st_ne (b := 0) (by decide) (by decide)
  split at h
  ·unfold pName at h
   split at h
   ·cases h
   ·split at h
    ·rename_i hn
     cases h
     exact ⟨hn, fun c hc => hl c (List.mem_cons_of_mem _ ((List.takeWhile_sublist _).subset hc))⟩
    ·cases h
  split at h
  ·cases h
  split at h
  ·cases h
  split at h
  ·rename_i b r' he
   have := pOne_lt hl he
   cases h
   exact st_ne (b := b) this (by simp)
  ·cases h
def WfG : Goal → Re Pt → Prop
 | .alt _, .ok t _ => t.wf true
 | .altR _, .ok f _ => f.wf false
 | .row _, .ok t _ => t.wf true
 | .rowR _, .ok f _ => f.wf false
 | .item _, .ok t _ => t.wf true
 | .itemR t0, .ok t _ => t0.wf true → t.wf true
 | .atom _, .ok t _ => t.wf true
 | _, _ => True
theorem PR.mem {g : Goal} {l : List Nat} {t : Pt} {r : List Nat} (h : PR g l (.ok t r)) (hl : ∀ c ∈ l, c < 256) : ∀ c ∈ r, c < 256 := fun c hc => hl c (h.suf.subset hc)
theorem PR.wf {g : Goal} {l : List Nat} {res : Re Pt} (h : PR g l res) : (∀ c ∈ l, c < 256) → WfG g res := by
 induction h with
 | @alt1 n l t r f r' h1 h2 ih1 ih2 =>
  intro hl
  have w1 := ih1 hl
  have w2 := ih2 (h1.mem hl)
  simp only [WfG] at w1 w2 ⊢
  rcases rows_shape h2 (.inr rfl) rfl with rfl | ⟨t', g', rfl, _⟩
  ·exact w1
  ·exact ⟨by simp [Pt.len], w1, w2⟩
 | altR1 h1 _ ih1 ih2 =>
  intro hl
  have hl' := fun c hc => hl c (List.mem_cons_of_mem _ hc)
  exact ⟨ih1 hl', ih2 (h1.mem hl')⟩
 | @row1 n l f r h1 ih1 =>
  intro hl
  have w1 := ih1 hl
  simp only [WfG] at w1 ⊢
  rcases rows_shape h1 (.inl rfl) rfl with rfl | ⟨t, g, rfl, rfl | ⟨t', g', rfl⟩⟩
  ·trivial
  ·exact w1.1
  ·exact ⟨by simp [Pt.len], w1⟩
 | rowR1 _ h1 _ ih1 ih2 => exact fun hl => ⟨ih1 hl, ih2 (h1.mem hl)⟩
 | @item1 n l t r res h1 h2 ih1 ih2 =>
  intro hl
  have w1 := ih1 hl
  have w2 := ih2 (h1.mem hl)
  cases res with
  | err => trivial
  | ok t' r' => exact w2 w1
 | @itemR1 t l lo hi r res h1 h2 ih =>
  intro hl
  have w2 := ih (fun c hc => hl c ((pTimes_suf h1).subset hc))
  cases res with
  | err => trivial
  | ok t' r' => exact fun ht => w2 ⟨ht, pTimes_bounds h1⟩
 | itemR0 => exact fun _ ht => ht
 | atomG h1 ih => exact fun hl => ih (fun c hc => hl c (List.mem_cons_of_mem _ hc))
 | atomC1 _ hz _ => exact fun _ => hz
 | @atomL n l _ _ =>
  intro hl
  cases hq : pLeaf l with
  | err => trivial
  | ok t r => exact pLeaf_wf hl hq
 | altR0 => exact fun _ => trivial
 | rowR0 => exact fun _ => trivial
 | _ => exact fun _ => trivial
end Go.Rv

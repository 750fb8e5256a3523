/- The parser, plainly: how it reads its bytes. -/
import Derived.Test.YtbepeoipaiahgaaRpSH
import Derived.Test.YtbepeoipaiahgaaRgM
import Derived.KernelRfl
namespace Go.Rv
theorem w64s {n : Nat} (h : n < 9223372036854775807) : IntKind.i64.wrap ((n : Int) + 1) = ((n + 1 : Nat) : Int) := by rw [w64 (by omega) (by omega)]; omega
/-- At i the text goes on so. -/
def At (s : ByteArray) (i : Nat) (l : List Nat) : Prop := i ≤ s.size ∧ (bs s).drop i = l ∧ s.size ≤ 1100
theorem At.len {s : ByteArray} {i : Nat} {l : List Nat} (h : At s i l) : i + l.length = s.size := by
  have := congrArg List.length h.2.1
  rw [List.length_drop, bs_len] at this
  have := h.1
  omega
theorem At.small {s : ByteArray} {i : Nat} {l : List Nat} (h : At s i l) : s.size ≤ 1100 := h.2.2
theorem At.nil {s : ByteArray} {i : Nat} (h : At s i []) : i = s.size := by have := h.len; simpa using this
theorem At.tail {s : ByteArray} {i c : Nat} {l : List Nat} (h : At s i (c :: l)) : At s (i + 1) l := by
  have h1 := h.len
  simp only [List.length_cons] at h1
  refine ⟨by omega, ?_, h.2.2⟩
  rw [← List.drop_drop, h.2.1, List.drop_one, List.tail_cons]
theorem At.get {s : ByteArray} {i c : Nat} {l : List Nat} (h : At s i (c :: l)) : (bs s)[i]? = some c := by
  have := congrArg (fun x => x[0]?) h.2.1
  simpa using this
theorem At.byte {s : ByteArray} {i c : Nat} {l : List Nat} (h : At s i (c :: l)) : bt s (i : Int) = c := by
  rw [bt_bs, h.get]; rfl
theorem At.lt {s : ByteArray} {i c : Nat} {l : List Nat} (h : At s i (c :: l)) : i < s.size := by
  have := h.len
  simp only [List.length_cons] at this; omega
theorem At.mem {s : ByteArray} {i : Nat} {l : List Nat} (h : At s i l) : ∀ c ∈ l, c < 256 := fun c hc => by
  rw [← h.2.1] at hc
  exact bs_lt (List.mem_of_mem_drop hc)
theorem At.c256 {s : ByteArray} {i c : Nat} {l : List Nat} (h : At s i (c :: l)) : c < 256 := h.mem c (List.mem_cons_self ..)
theorem At.drop {s : ByteArray} {i : Nat} {l : List Nat} (h : At s i l) (n : Nat) (hn : n ≤ l.length) : At s (i + n) (l.drop n) := by
  have := h.len
  exact ⟨by omega, by rw [← h.2.1, List.drop_drop], h.2.2⟩
theorem At.suffix {s : ByteArray} {i : Nat} {l r : List Nat} (h : At s i l) (hr : r <:+ l) : At s (s.size - r.length) r := by
  obtain ⟨p, rfl⟩ := hr
  have h1 := h.len
  rw [List.length_append] at h1
  have := h.drop p.length (by simp)
  rw [List.drop_left] at this
  rwa [show i + p.length = s.size - r.length by omega] at this
theorem at_end (s : ByteArray) (i : Nat) (l : List Nat) (h : At s i l) : i = s.size - l.length := by have := h.len; omega

section
variable (K : Nat) {s : ByteArray} {i : Nat} {w e : Int} {ns : List api_Node} {d : Int}
abbrev pst (s : ByteArray) (i w e : Int) (ns : List api_Node) (d : Int) : syntax_parser := ⟨⟨s, i, w, e⟩, ns, d⟩
theorem ge_false {i n : Nat} (h : i < n) : decide ((i : Int) ≥ (n : Int)) = false := by simp; omega
theorem ge_true {i n : Nat} (h : n ≤ i) : decide ((i : Int) ≥ (n : Int)) = true := by simp; omega
theorem peek_cons {c : Nat} {l : List Nat} (h : At s i (c :: l)) : syntax_reader_peek K (pst s i w 0 ns d) = some ((c : Int), true) := by
  have h1 := h.lt
  rw [syntax_reader_peek]
  simp only [bne_self_eq_false, cond_false, ge_false h1]
  rw [ck_pos ⟨by omega, by omega⟩, h.byte]
theorem peek_nil (h : At s i []) : syntax_reader_peek K (pst s i w 0 ns d) = some (0, false) := by
  have h1 := h.nil
  rw [syntax_reader_peek]
  simp only [bne_self_eq_false, cond_false, ge_true (show s.size ≤ i by omega), cond_true, syntax_reader_peek_j0]
theorem peek_bad {i : Int} (he : e ≠ 0) : syntax_reader_peek K (pst s i w e ns d) = some (0, false) := by
  rw [syntax_reader_peek]
  have : (e != 0) = true := by simpa using he
  simp only [this, cond_true, syntax_reader_peek_j0]
theorem fail_ok {i : Int} (k x : Int) : syntax_reader_fail K (pst s i w 0 ns d) k x = some (pst s i x k ns d) := by
  rw [syntax_reader_fail]
  simp only [beq_self_eq_true, cond_true]
theorem fail_bad {i : Int} (he : e ≠ 0) (k x : Int) : syntax_reader_fail K (pst s i w e ns d) k x = some (pst s i w e ns d) := by
  rw [syntax_reader_fail]
  have : (e == 0) = false := by simpa using he
  simp only [this, cond_false]
theorem next_cons {c : Nat} {l : List Nat} (h : At s i (c :: l)) : syntax_reader_next K (pst s i w 0 ns d) = some ((c : Int), pst s ((i + 1 : Nat) : Int) w 0 ns d) := by
  have := h.lt
  have := h.small
  rw [syntax_reader_next, peek_cons K h, Option.bind_some]
  simp only [Bool.not_true, cond_false, w64s (n := i) (by omega)]
theorem next_nil (h : At s i []) : syntax_reader_next K (pst s i w 0 ns d) = some (0, pst s i (s.size : Int) 40 ns d) := by
  rw [syntax_reader_next, peek_nil K h, Option.bind_some]
  simp only [Bool.not_false, cond_true, fail_ok, Option.bind_some]
theorem next_bad {i : Int} (he : e ≠ 0) : syntax_reader_next K (pst s i w e ns d) = some (0, pst s i w e ns d) := by
  rw [syntax_reader_next, peek_bad K he, Option.bind_some]
  simp only [Bool.not_false, cond_true, fail_bad K he, Option.bind_some]
theorem is_eq {l : List Nat} (h : At s i l) (c : Nat) : syntax_reader_is K (pst s i w 0 ns d) (c : Int) = some (decide (l.head? = some c)) := by
  rw [syntax_reader_is]
  cases l with
  | nil => rw [peek_nil K h]; simp
  | cons b l =>
    rw [peek_cons K h]
    simp only [Option.bind_some, cond_true, List.head?_cons, Option.some.injEq]
    congr 1
    rw [Bool.eq_iff_iff, beq_iff_eq, decide_eq_true_eq]
    omega
theorem is_bad {i : Int} (he : e ≠ 0) (c : Int) : syntax_reader_is K (pst s i w e ns d) c = some false := by
  rw [syntax_reader_is, peek_bad K he]; rfl
theorem skip_yes {c : Nat} {l : List Nat} (h : At s i (c :: l)) : syntax_reader_skip K (pst s i w 0 ns d) (c : Int) = some (true, pst s ((i + 1 : Nat) : Int) w 0 ns d) := by
  have := h.lt
  have := h.small
  rw [syntax_reader_skip, is_eq K h]
  simp only [Option.bind_some, List.head?_cons, decide_true, Bool.not_true, cond_false, w64s (n := i) (by omega)]
theorem skip_no {l : List Nat} (h : At s i l) {c : Nat} (hc : l.head? ≠ some c) : syntax_reader_skip K (pst s i w 0 ns d) (c : Int) = some (false, pst s i w 0 ns d) := by
  rw [syntax_reader_skip, is_eq K h, decide_eq_false hc]
  simp only [Option.bind_some, Bool.not_false, cond_true]
theorem skip_bad {i : Int} (he : e ≠ 0) (c : Int) : syntax_reader_skip K (pst s i w e ns d) c = some (false, pst s i w e ns d) := by
  rw [syntax_reader_skip, is_bad K he]
  simp only [Option.bind_some, Bool.not_false, cond_true]
theorem sdigit (c : Nat) : syntax_digit K (c : Int) = some (isDig c) := by
  rw [syntax_digit, isDig]
  by_cases h : 48 ≤ c
  · have : decide ((c : Int) ≥ 48) = true := by simp; omega
    rw [this, cond_true, decide_eq_true h]
    congr 1
    rw [Bool.true_and, Bool.eq_iff_iff, decide_eq_true_eq, decide_eq_true_eq]
    omega
  · have : decide ((c : Int) ≥ 48) = false := by simp; omega
    rw [this, cond_false, decide_eq_false h, Bool.false_and]
theorem dig_at {l : List Nat} (h : At s i l) (a : Nat) (ha : a ≤ 1) : syntax_reader_digit K (pst s i w 0 ns d) (a : Int) = some (digNext (l.drop a)) := by
  have h1 := h.len
  have h2 := h.small
  rw [syntax_reader_digit]
  simp only [beq_self_eq_true, cond_true]
  have e1 : IntKind.i64.wrap ((i : Int) + (a : Int)) = ((i + a : Nat) : Int) := by rw [w64 (by omega) (by omega)]; omega
  rw [e1]
  by_cases hl : a < l.length
  · have hd := h.drop a (by omega)
    obtain ⟨c, r, hc⟩ : ∃ c r, l.drop a = c :: r := by
      cases hq : l.drop a with
      | nil => rw [List.drop_eq_nil_iff] at hq; omega
      | cons c r => exact ⟨c, r, rfl⟩
    rw [hc] at hd ⊢
    have e2 : decide (((i + a : Nat) : Int) < (s.size : Int)) = true := by simp; omega
    rw [e2, cond_true, ck_pos ⟨by omega, by omega⟩, hd.byte, sdigit, Option.bind_some, digNext]
  · have e2 : decide (((i + a : Nat) : Int) < (s.size : Int)) = false := by simp; omega
    rw [e2, cond_false, List.drop_eq_nil_of_le (by omega), digNext]
theorem dig0 {l : List Nat} (h : At s i l) : syntax_reader_digit K (pst s i w 0 ns d) 0 = some (digNext l) := dig_at K h 0 (by omega)
theorem dig1 {l : List Nat} (h : At s i l) : syntax_reader_digit K (pst s i w 0 ns d) 1 = some (digNext (l.drop 1)) := dig_at K h 1 (by omega)
end

/- Bytes among some. -/
theorem idx_spec : ∀ c : _root_.Fin 256, decide (idxS (⟨#[124, 42, 43, 63, 123, 125, 40, 41, 91, 93, 46, 92, 47, 36, 94, 34]⟩ : ByteArray) (c.val : Int) ≥ 0) = specN c.val := by decide +kernel
theorem idx_mark : ∀ c : _root_.Fin 256, decide (idxS (⟨#[93, 45, 94]⟩ : ByteArray) (c.val : Int) ≥ 0) = markN c.val := by decide +kernel
theorem idx_hex : ∀ c : _root_.Fin 256, (IntKind.u8.wrap (if (0 : Int) > idxS (⟨#[48, 49, 50, 51, 52, 53, 54, 55, 56, 57, 97, 98, 99, 100, 101, 102]⟩ : ByteArray) (c.val : Int) then (0 : Int) else idxS (⟨#[48, 49, 50, 51, 52, 53, 54, 55, 56, 57, 97, 98, 99, 100, 101, 102]⟩ : ByteArray) (c.val : Int)), decide (idxS (⟨#[48, 49, 50, 51, 52, 53, 54, 55, 56, 57, 97, 98, 99, 100, 101, 102]⟩ : ByteArray) (c.val : Int) ≥ 0)) = ((((hexN c.val).getD 0 : Nat) : Int), (hexN c.val).isSome) := by decide +kernel
theorem snibble (K c : Nat) (h : c < 256) : syntax_nibble K (c : Int) = some ((((hexN c).getD 0 : Nat) : Int), (hexN c).isSome) := by
  rw [syntax_nibble, strings_IndexByte, stringslite_IndexByte]
  simp only [Option.bind_some]
  exact congrArg some (idx_hex ⟨c, h⟩)
theorem sspec (K c : Nat) (h : c < 256) : (strings_IndexByte K (⟨#[124, 42, 43, 63, 123, 125, 40, 41, 91, 93, 46, 92, 47, 36, 94, 34]⟩ : ByteArray) (c : Int)) = some (idxS (⟨#[124, 42, 43, 63, 123, 125, 40, 41, 91, 93, 46, 92, 47, 36, 94, 34]⟩ : ByteArray) (c : Int)) ∧ decide (idxS (⟨#[124, 42, 43, 63, 123, 125, 40, 41, 91, 93, 46, 92, 47, 36, 94, 34]⟩ : ByteArray) (c : Int) ≥ 0) = specN c := by
  refine ⟨?_, idx_spec ⟨c, h⟩⟩
  rw [strings_IndexByte, stringslite_IndexByte]
  simp only [Option.bind_some]
theorem smark (K c : Nat) (h : c < 256) : (strings_IndexByte K (⟨#[93, 45, 94]⟩ : ByteArray) (c : Int)) = some (idxS (⟨#[93, 45, 94]⟩ : ByteArray) (c : Int)) ∧ decide (idxS (⟨#[93, 45, 94]⟩ : ByteArray) (c : Int) ≥ 0) = markN c := by
  refine ⟨?_, idx_mark ⟨c, h⟩⟩
  rw [strings_IndexByte, stringslite_IndexByte]
  simp only [Option.bind_some]

/- A byte, or an escape. -/
theorem or_hex : ∀ a b : _root_.Fin 16, bits .or .u8 (IntKind.u8.wrap ((a.val : Int) * 2 ^ min (Int.toNat (4 : Int)) IntKind.u8.bits)) (b.val : Int) = ((16 * a.val + b.val : Nat) : Int) := by decide +kernel
theorem hexN_lt {c a : Nat} (h : hexN c = some a) : a < 16 := by
  unfold hexN at h
  split at h
  · cases h; omega
  · split at h
    · cases h; omega
    · cases h
/-- What a reader answers: a byte, or that something is wrong. -/
def RdN (s : ByteArray) (ns : List api_Node) (d w : Int) (l : List Nat) (i : Nat) (f : Option (Int × syntax_parser)) : Re Nat → Prop
  | .ok b r => f = some ((b : Int), pst s ((s.size - r.length : Nat) : Int) w 0 ns d) ∧ b < 256 ∧ r <:+ l
  | .err k x => (∃ b i' : Nat, f = some ((b : Int), pst s (i' : Int) ((s.size - x.length : Nat) : Int) k ns d) ∧ b < 256 ∧ i ≤ i' ∧ i' ≤ s.size) ∧ k ≠ 0 ∧ x.length ≤ s.size
section
variable (K : Nat) {s : ByteArray} {i : Nat} {w : Int} {ns : List api_Node} {d : Int}
theorem pair_ok {wl l : List Nat} (h : At s i l) (hw : wl.length ≤ s.size) :
    match pPair wl l with
    | .ok b r => syntax_reader_pair K (pst s i w 0 ns d) = some ((b : Int), true, pst s ((s.size - r.length : Nat) : Int) w 0 ns d) ∧ b < 256 ∧ r <:+ l
    | .err k x => (k = 40 ∧ x = [] ∧ syntax_reader_pair K (pst s i w 0 ns d) = some (0, true, pst s i (s.size : Int) 40 ns d)) ∨ (k = 43 ∧ x = wl ∧ ∃ b i' : Nat, syntax_reader_pair K (pst s i w 0 ns d) = some ((b : Int), false, pst s (i' : Int) w 0 ns d) ∧ b < 256 ∧ i ≤ i' ∧ i' ≤ s.size) := by
  have hl := h.len
  have hsm := h.small
  have e1 : IntKind.i64.wrap ((i : Int) + 2) = ((i + 2 : Nat) : Int) := by rw [w64 (by omega) (by omega)]; omega
  match l, h with
  | [], h =>
    simp only [pPair]
    left
    refine ⟨by simp, by simp, ?_⟩
    simp only [List.length_nil] at hl
    rw [syntax_reader_pair]
    simp only [e1, show decide (((i + 2 : Nat) : Int) > (s.size : Int)) = true by simp; omega, cond_true, fail_ok, Option.bind_some]
  | [x], h =>
    simp only [pPair]
    left
    refine ⟨by simp, by simp, ?_⟩
    simp only [List.length_cons, List.length_nil] at hl
    rw [syntax_reader_pair]
    simp only [e1, show decide (((i + 2 : Nat) : Int) > (s.size : Int)) = true by simp; omega, cond_true, fail_ok, Option.bind_some]
  | x :: y :: r, h =>
    have h2 := h.tail
    have h3 := h2.tail
    simp only [List.length_cons] at hl
    have hf : syntax_reader_pair K (pst s i w 0 ns d) = some (bits .or .u8 (IntKind.u8.wrap ((((hexN x).getD 0 : Nat) : Int) * 2 ^ min (Int.toNat (4 : Int)) IntKind.u8.bits)) (((hexN y).getD 0 : Nat) : Int), (hexN x).isSome && (hexN y).isSome, pst s ((i + 1 + 1 : Nat) : Int) w 0 ns d) := by
      rw [syntax_reader_pair]
      simp only [e1, show decide (((i + 2 : Nat) : Int) > (s.size : Int)) = false by simp; omega, cond_false, next_cons K h, Option.bind_some, snibble K x h.c256, next_cons K h2, snibble K y h2.c256]
      cases (hexN x).isSome <;> rfl
    have hlt : (hexN x).getD 0 < 16 ∧ (hexN y).getD 0 < 16 := by
      constructor
      · cases hq : hexN x with
        | none => decide
        | some a => exact hexN_lt hq
      · cases hq : hexN y with
        | none => decide
        | some a => exact hexN_lt hq
    have hb := or_hex ⟨(hexN x).getD 0, hlt.1⟩ ⟨(hexN y).getD 0, hlt.2⟩
    simp only at hb
    rw [hb] at hf
    simp only [pPair]
    cases hx : hexN x with
    | none =>
      simp only [hx] at hf
      simp only
      right
      simp only [Option.getD_none, Option.isSome_none, Bool.false_and] at hf
      exact ⟨by simp, by simp, _, _, hf, by rw [hx] at hlt; have := hlt.2; omega, by omega, by omega⟩
    | some a =>
      cases hy : hexN y with
      | none =>
        simp only
        right
        simp only [hx, hy, Option.getD_none, Option.getD_some, Option.isSome_some, Option.isSome_none, Bool.and_false] at hf
        exact ⟨by simp, by simp, _, _, hf, by rw [hx] at hlt; have := hlt.1; simp only [Option.getD_some] at this; omega, by omega, by omega⟩
      | some b =>
        simp only
        rw [hx, hy] at hlt hf
        simp only [Option.getD_some, Option.isSome_some, Bool.and_true] at hlt hf
        refine ⟨?_, by omega, ⟨[x, y], rfl⟩⟩
        rw [hf, show i + 1 + 1 = s.size - r.length by omega]
theorem esc_ok {wl l : List Nat} (h : At s i l) (hw : wl.length ≤ s.size) :
    match pEsc wl l with
    | .ok b r => syntax_reader_escape K (pst s i w 0 ns d) = some ((b : Int), true, pst s ((s.size - r.length : Nat) : Int) w 0 ns d) ∧ b < 256 ∧ r <:+ l
    | .err k x => (k = 40 ∧ x = [] ∧ ∃ i' : Nat, syntax_reader_escape K (pst s i w 0 ns d) = some (0, true, pst s (i' : Int) (s.size : Int) 40 ns d) ∧ i ≤ i' ∧ i' ≤ s.size) ∨ (k = 43 ∧ x = wl ∧ ∃ b i' : Nat, syntax_reader_escape K (pst s i w 0 ns d) = some ((b : Int), false, pst s (i' : Int) w 0 ns d) ∧ b < 256 ∧ i ≤ i' ∧ i' ≤ s.size) := by
  have hl := h.len
  cases l with
  | nil =>
    simp only [pEsc]
    left
    refine ⟨by simp, by simp, i, ?_, by omega, h.1⟩
    rw [syntax_reader_escape, next_nil K h]
    simp
  | cons c r =>
    have hc := h.c256
    have ht := h.tail
    have htl := ht.len
    have hsf : r <:+ c :: r := ⟨[c], rfl⟩
    have beqn : ∀ m : Nat, ((c : Int) == (m : Int)) = decide (c = m) := fun m => by
      rw [Bool.eq_iff_iff, beq_iff_eq, decide_eq_true_eq]; omega
    have hd : s.size - r.length = i + 1 := by omega
    rw [syntax_reader_escape, next_cons K h, Option.bind_some]
    simp only [bne_self_eq_false, cond_false]
    have b110 : ((c : Int) == 110) = decide (c = 110) := beqn 110
    have b116 : ((c : Int) == 116) = decide (c = 116) := beqn 116
    have b114 : ((c : Int) == 114) = decide (c = 114) := beqn 114
    have b120 : ((c : Int) == 120) = decide (c = 120) := beqn 120
    have b45 : ((c : Int) == 45) = decide (c = 45) := beqn 45
    rw [b110, b116, b114, b120, b45]
    unfold pEsc
    by_cases h1 : c = 110
    · simp only [h1, decide_true, if_true, cond_true]
      exact ⟨by rw [hd]; rfl, by decide, by rw [h1] at hsf; exact hsf⟩
    by_cases h2 : c = 116
    · subst h2
      simp only [show ¬ (116 = 110) by decide, decide_true, decide_false, if_true, if_false, cond_true, cond_false]
      exact ⟨by rw [hd]; rfl, by decide, hsf⟩
    by_cases h3 : c = 114
    · subst h3
      simp only [show ¬ (114 = 110) by decide, show ¬ (114 = 116) by decide, decide_true, decide_false, if_true, if_false, cond_true, cond_false]
      exact ⟨by rw [hd]; rfl, by decide, hsf⟩
    by_cases h4 : c = 120
    · subst h4
      simp only [show ¬ (120 = 110) by decide, show ¬ (120 = 116) by decide, show ¬ (120 = 114) by decide, decide_true, decide_false, if_true, if_false, cond_true, cond_false]
      have hp := pair_ok (wl := wl) (w := w) (ns := ns) (d := d) K ht hw
      cases hq : pPair wl r with
      | ok b r' =>
        rw [hq] at hp
        simp only at hp ⊢
        rw [hp.1, Option.bind_some]
        exact ⟨rfl, hp.2.1, hp.2.2.trans hsf⟩
      | err k x =>
        rw [hq] at hp
        simp only at hp ⊢
        rcases hp with ⟨rfl, rfl, hp⟩ | ⟨rfl, rfl, b, i', hp, hb, h5, h6⟩
        · left
          refine ⟨rfl, rfl, i + 1, ?_, by omega, ht.1⟩
          rw [hp, Option.bind_some]
        · right
          refine ⟨rfl, rfl, b, i', ?_, hb, by omega, h6⟩
          rw [hp, Option.bind_some]
    by_cases h5 : c = 45
    · subst h5
      simp only [show ¬ (45 = 110) by decide, show ¬ (45 = 116) by decide, show ¬ (45 = 114) by decide, show ¬ (45 = 120) by decide, decide_true, decide_false, if_true, if_false, cond_true, cond_false, true_or]
      exact ⟨by rw [hd], by decide, hsf⟩
    · simp only [h1, h2, h3, h4, h5, decide_false, if_false, cond_false, false_or]
      obtain ⟨e1, e2⟩ := sspec K c hc
      rw [e1, Option.bind_some, e2]
      by_cases h6 : specN c = true
      · simp only [h6, if_true]
        exact ⟨by rw [hd], hc, hsf⟩
      · simp only [h6, if_false]
        right
        simp only [Bool.not_eq_true] at h6
        exact ⟨by simp, by simp, c, i + 1, rfl, hc, by omega, ht.1⟩
theorem one_ok {l : List Nat} (h : At s i l) : RdN s ns d w l i (syntax_reader_one K (pst s i w 0 ns d)) (pOne l) := by
  have hl := h.len
  have hsm := h.small
  cases l with
  | nil =>
    simp only [pOne, RdN]
    refine ⟨⟨0, i, ?_, by decide, Nat.le_refl _, h.1⟩, by decide, by simp⟩
    rw [syntax_reader_one, next_nil K h]
    rfl
  | cons c r =>
    have ht := h.tail
    have htl := ht.len
    have hsf : r <:+ c :: r := ⟨[c], rfl⟩
    simp only [List.length_cons] at hl
    rw [syntax_reader_one, next_cons K h, Option.bind_some]
    have b92 : ((c : Int) != 92) = !decide (c = 92) := by
      rw [bne, Bool.not_inj_iff, Bool.eq_iff_iff, beq_iff_eq, decide_eq_true_eq]; omega
    simp only [b92, pOne]
    by_cases h1 : c = 92
    · simp only [h1, decide_true, Bool.not_true, cond_false, if_true]
      subst h1
      have hp := esc_ok (wl := 92 :: r) (w := w) (ns := ns) (d := d) K ht (by simp; omega)
      cases hq : pEsc (92 :: r) r with
      | ok b r' =>
        rw [hq] at hp
        simp only at hp
        rw [hp.1, Option.bind_some]
        simp only [Bool.not_true, cond_false, RdN]
        exact ⟨trivial, hp.2.1, hp.2.2.trans hsf⟩
      | err k x =>
        rw [hq] at hp
        simp only at hp
        rcases hp with ⟨rfl, rfl, i', hp, h5, h6⟩ | ⟨rfl, rfl, b, i', hp, hb, h5, h6⟩
        · rw [hp, Option.bind_some]
          simp only [Bool.not_true, cond_false, RdN, List.length_nil, Nat.sub_zero]
          exact ⟨⟨0, i', rfl, by decide, by omega, h6⟩, by decide, by omega⟩
        · rw [hp, Option.bind_some]
          simp only [Bool.not_false, cond_true, fail_ok, Option.bind_some, RdN, List.length_cons]
          exact ⟨⟨b, i', by rw [show s.size - (r.length + 1) = i by omega]; rfl, hb, by omega, h6⟩, by decide, by omega⟩
    · simp only [h1, decide_false, Bool.not_false, cond_true, if_false, RdN]
      exact ⟨by rw [show s.size - r.length = i + 1 by omega], h.c256, hsf⟩
theorem member_ok {l : List Nat} (h : At s i l) : RdN s ns d w l i (syntax_reader_member K (pst s i w 0 ns d)) (pMember l) := by
  have hl := h.len
  cases l with
  | nil =>
    have := one_ok (w := w) (ns := ns) (d := d) K h
    rw [syntax_reader_member, peek_nil K h]
    simp only [Option.bind_some, cond_false, syntax_reader_member_j1, syntax_reader_member_j0, bne_self_eq_false]
    simp only [pMember, pOne] at this ⊢
    simp only [RdN] at this ⊢
    obtain ⟨⟨b, i', h1, h2⟩, h3⟩ := this
    exact ⟨⟨b, i', by rw [h1]; rfl, h2⟩, h3⟩
  | cons c r =>
    obtain ⟨e1, e2⟩ := smark K c h.c256
    rw [syntax_reader_member, peek_cons K h]
    simp only [Option.bind_some, cond_true, e1, e2, pMember]
    cases h1 : markN c with
    | true =>
      simp only [cond_true, fail_ok, Option.bind_some, syntax_reader_member_j0, if_true, RdN]
      simp only [List.length_cons] at hl ⊢
      refine ⟨⟨0, i, ?_, by decide, Nat.le_refl _, h.1⟩, by decide, by omega⟩
      rw [show s.size - (r.length + 1) = i by omega]
      rfl
    | false =>
      have := one_ok (w := w) (ns := ns) (d := d) K h
      simp only [cond_false, syntax_reader_member_j1, syntax_reader_member_j0, bne_self_eq_false, Bool.false_eq_true, if_false]
      cases hq : pOne (c :: r) with
      | ok b r' =>
        rw [hq] at this
        simp only [RdN] at this ⊢
        rw [this.1]
        exact ⟨rfl, this.2⟩
      | err k x =>
        rw [hq] at this
        simp only [RdN] at this ⊢
        obtain ⟨⟨b, i', h1, h2⟩, h3⟩ := this
        exact ⟨⟨b, i', by rw [h1]; rfl, h2⟩, h3⟩
end
end Go.Rv

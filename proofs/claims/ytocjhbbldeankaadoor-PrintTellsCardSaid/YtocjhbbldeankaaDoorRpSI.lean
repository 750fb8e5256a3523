/- The parser, plainly: how it reads its bytes. -/
import Derived.Test.YtocjhbbldeankaaDoorRpSH
import Derived.Test.YtocjhbbldeankaaDoorRgM
import Derived.KernelRfl
namespace Go.Rv
theorem w64s {n : Nat} (h : n < 9223372036854775807) : IntKind.i64.wrap ((n : Int) + 1) = ((n + 1 : Nat) : Int) := by rw [w64 (by omega) (by omega)]; omega
def At (s : ByteArray) (i : Nat) (l : List Nat) : Prop := i ≤ s.size ∧ (bs s).drop i = l ∧ s.size ≤ 1100
theorem At.len {s : ByteArray} {i : Nat} {l : List Nat} (h : At s i l) : i + l.length = s.size := by
  have := congrArg List.length h.2.1
  rw [List.length_drop, bs_len] at this
  have := h.1
  omega
theorem At.nil {s : ByteArray} {i : Nat} (h : At s i []) : i = s.size := by have := h.len; simpa using this
theorem At.tail {s : ByteArray} {i c : Nat} {l : List Nat} (h : At s i (c :: l)) : At s (i + 1) l := by
  have h1 := h.len
  simp only [List.length_cons] at h1
  refine ⟨by omega, ?_, h.2.2⟩
  rw [← List.drop_drop, h.2.1, List.drop_one, List.tail_cons]
theorem At.get {s : ByteArray} {i c : Nat} {l : List Nat} (h : At s i (c :: l)) : (bs s)[i]? = some c := by
  have := congrArg (fun x => x[0]?) h.2.1
  simpa using this
theorem At.byte {s : ByteArray} {i c : Nat} {l : List Nat} (h : At s i (c :: l)) : bt s (i : Int) = c := by
  rw [bt_bs, h.get]; rfl
theorem At.lt {s : ByteArray} {i c : Nat} {l : List Nat} (h : At s i (c :: l)) : i < s.size := by
  have := h.len
  simp only [List.length_cons] at this; omega
theorem At.mem {s : ByteArray} {i : Nat} {l : List Nat} (h : At s i l) : ∀ c ∈ l, c < 256 := fun c hc => by
  rw [← h.2.1] at hc
  exact bs_lt (List.mem_of_mem_drop hc)
theorem At.drop {s : ByteArray} {i : Nat} {l : List Nat} (h : At s i l) (n : Nat) (hn : n ≤ l.length) : At s (i + n) (l.drop n) := by
  have := h.len
  exact ⟨by omega, by rw [← h.2.1, List.drop_drop], h.2.2⟩
section
variable (K : Nat) {s : ByteArray} {i : Nat} {w e : Int} {ns : List aNd} {d : Int}
abbrev pst (s : ByteArray) (i w e : Int) (ns : List aNd) (d : Int) : syp := ⟨⟨s, i, w, e⟩, ns, d⟩
theorem sdigit (c : Nat) : sy_digit K (c : Int) = some (isDig c) := by
  rw [sy_digit, isDig]
  by_cases h : 48 ≤ c
  · have : decide ((c : Int) ≥ 48) = true := by simp; omega
    rw [this, cond_true, decide_eq_true h]
    congr 1
    rw [Bool.true_and, Bool.eq_iff_iff, decide_eq_true_eq, decide_eq_true_eq]
    omega
  · have : decide ((c : Int) ≥ 48) = false := by simp; omega
    rw [this, cond_false, decide_eq_false h, Bool.false_and]
end
/- Bytes among some. -/
/- A byte, or an escape. -/
theorem hexN_lt {c a : Nat} (h : hexN c = some a) : a < 16 := by
  unfold hexN at h
  split at h
  · cases h; omega
  · split at h
    · cases h; omega
    · cases h
section
variable (K : Nat) {s : ByteArray} {i : Nat} {w : Int} {ns : List aNd} {d : Int}
end
end Go.Rv

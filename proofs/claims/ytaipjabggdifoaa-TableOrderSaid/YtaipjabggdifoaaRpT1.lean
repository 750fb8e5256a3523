/- Automata, plainly: what both layers' questions 'may it be so?' answer. -/
import Derived.Test.YtaipjabggdifoaaRgM
import Derived.KernelRfl
namespace Go.Rv

theorem ck_pos {β : Type} {p : Prop} [Decidable p] {f : Unit → Option β} (h : p) : (ck p).bind f = f () := by simp [ck, h]
theorem geti_nat {α : Type} {l : List α} {i : Nat} (h : i < l.length) : geti l (i : Int) = some l[i] := by simp [geti, h]
theorem w64 {n : Int} (h0 : -9223372036854775808 ≤ n) (h1 : n < 9223372036854775808) : IntKind.i64.wrap n = n := by rw [IntKind.wrap_i64]; omega
/- Numbers that rise. -/
def risesF (below : Int) : Int → List Int → Bool
  | _, [] => true
  | last, n :: l => !(decide (n ≤ last)) && (!(decide (n ≥ below)) && risesF below n l)
def risesS (l : List Int) (below : Int) : Bool := risesF below (-1) l
theorem risesF_len {below : Int} : ∀ (l : List Int) (last : Int), -1 ≤ last → risesF below last l = true → (l.length : Int) ≤ below - last - 1 ∨ l = [] := by
  intro l
  induction l with
  | nil => intro last _ _; exact .inr rfl
  | cons n l ih =>
    intro last h0 h
    simp only [risesF, Bool.and_eq_true, Bool.not_eq_true', decide_eq_false_iff_not] at h
    obtain ⟨h1, h2, h3⟩ := h
    refine .inl ?_
    rcases ih n (by omega) h3 with h4 | h4
    · simp only [List.length_cons]; omega
    · subst h4; simp only [List.length_cons, List.length_nil]; omega
/- Codes. -/
def codesS (n : Int) : Int := if n = 0 then 1 else if n = 1 then 3 else if n = 2 then 9 else if n = 3 then 27 else 0
/- Is a number in a list? -/
/- Splits. -/
def splitF (a : ArrN) : Nat → Nat → Int → Int → Bool
  | 0, _, n, many => n == many
  | m + 1, i, n, many => if a.f i > n then false else if a.f i = n then splitF a m (i + 1) (n + 1) many else splitF a m (i + 1) n many
def splitS (x : api_Split) : Bool := splitF x.Of 256 0 0 x.Many
theorem splitF_many (a : ArrN) : ∀ (m i : Nat) (n many : Int), splitF a m i n many = true → many ≤ n + m := by
  intro m
  induction m with
  | zero => intro i n many h; simp [splitF] at h; omega
  | succ m ih =>
    intro i n many h
    simp only [splitF] at h
    split at h
    · cases h
    · split at h
      · have := ih _ _ _ h; omega
      · have := ih _ _ _ h; omega
end Go.Rv

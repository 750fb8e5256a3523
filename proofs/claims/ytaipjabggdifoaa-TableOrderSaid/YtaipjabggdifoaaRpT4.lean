/- What is written: numbers, and the bytes of an automaton; both layers write the same. -/
import Derived.Test.YtaipjabggdifoaaRpT3
namespace Go.Rv
theorem or128 (n : Nat) (h : n < 256) : bits .or .u8 (n : Int) 128 = ((n % 128 + 128 : Nat) : Int) := by
  have : (List.range 256).all (fun m => bits .or .u8 (m : Int) 128 == ((m % 128 + 128 : Nat) : Int)) = true := by kernel_rfl
  exact beq_iff_eq.1 (List.all_eq_true.1 this n (List.mem_range.2 h))
def numF : Nat → Nat → List Int
  | 0, _ => []
  | k + 1, n => if n < 128 then [(n : Int)] else ((n % 128 + 128 : Nat) : Int) :: numF k (n / 128)
def numB (v : Int) : List Int := numF 9 v.toNat
theorem numF_len : ∀ (k n : Nat), (numF k n).length ≤ k := by
  intro k
  induction k with
  | zero => intro n; simp [numF]
  | succ k ih =>
    intro n
    simp only [numF]
    split
    · simp
    · simp only [List.length_cons]; have := ih (n / 128); omega
theorem numB_len (v : Int) : (numB v).length ≤ 9 := numF_len _ _
abbrev LIM : Nat := 1099511627776
theorem rm {n : Nat} (h : n ≤ LIM) : roomy 1 n = true := roomy_iff.2 (by simp only [maxLen, LIM] at *; omega)
theorem autoNumber_l0 (K : Nat) : ∀ (d k n : Nat) (y : List Int), n < 128 ^ (d + 1) → d < k → y.length + (numF (d + 1) n).length ≤ LIM → table_Number_l0 K k (n : Int) y = some (y ++ numF (d + 1) n) := by
  intro d
  induction d with
  | zero =>
    intro k n y hn hk hl
    obtain ⟨k, rfl⟩ : ∃ k', k = k' + 1 := ⟨k - 1, by omega⟩
    have hn' : n < 128 := by simpa using hn
    have e0 : decide ((n : Int) ≥ 128) = false := decide_eq_false (by omega)
    have e1 : IntKind.u8.wrap (n : Int) = n := by rw [IntKind.wrap_u8]; omega
    have e2 : numF (0 + 1) n = [(n : Int)] := by simp only [numF, if_pos hn']
    rw [e2] at hl ⊢
    simp only [table_Number_l0, e0, cond_false, e1, ck_pos (rm hl)]
  | succ d ih =>
    intro k n y hn hk hl
    obtain ⟨k, rfl⟩ : ∃ k', k = k' + 1 := ⟨k - 1, by omega⟩
    by_cases hn' : n < 128
    · have e0 : decide ((n : Int) ≥ 128) = false := decide_eq_false (by omega)
      have e1 : IntKind.u8.wrap (n : Int) = n := by rw [IntKind.wrap_u8]; omega
      have e2 : numF (d + 1 + 1) n = [(n : Int)] := by rw [numF, if_pos hn']
      rw [e2] at hl ⊢
      simp only [table_Number_l0, e0, cond_false, e1, ck_pos (rm hl)]
    · have e0 : decide ((n : Int) ≥ 128) = true := decide_eq_true (by omega)
      have e1 : bits .or .u8 (IntKind.u8.wrap (n : Int)) 128 = ((n % 128 + 128 : Nat) : Int) := by
        have : IntKind.u8.wrap (n : Int) = ((n % 256 : Nat) : Int) := by rw [IntKind.wrap_u8]; omega
        rw [this, or128 _ (by omega)]
        omega
      have e2 : numF (d + 1 + 1) n = ((n % 128 + 128 : Nat) : Int) :: numF (d + 1) (n / 128) := by rw [numF, if_neg hn']
      have e3 : Int.fdiv (n : Int) (2 ^ min (Int.toNat (7 : Int)) IntKind.i64.bits) = ((n / 128 : Nat) : Int) := by
        have : (2 : Int) ^ min (Int.toNat (7 : Int)) IntKind.i64.bits = 128 := by decide
        rw [this, Int.fdiv_eq_ediv_of_nonneg _ (by omega)]
        omega
      rw [e2] at hl ⊢
      simp only [List.length_cons] at hl
      simp only [table_Number_l0, e0, cond_true, e1, e3, ck_pos (rm (show y.length + [((n % 128 + 128 : Nat) : Int)].length ≤ LIM by simp only [List.length_singleton]; omega))]
      rw [ih k (n / 128) _ (by rw [Nat.pow_succ] at hn; omega) (by omega) (by simp only [List.length_append, List.length_singleton]; omega)]
      simp
theorem clamp (v : Int) : (if (0 : Int) > v then (0 : Int) else v) = (v.toNat : Int) := by split <;> omega
theorem autoNumber (K : Nat) (hK : 10 ≤ K) (b : List Int) (v : Int) (hv : v < 9223372036854775808) (hl : b.length + (numB v).length ≤ LIM) : table_Number K b v = some (b ++ numB v) := by
  rw [table_Number, slices_Clone_byte, ck_pos (rm (by simp only [List.length_nil]; omega)), Option.bind_some, clamp, List.nil_append]
  exact autoNumber_l0 K 8 K v.toNat b (by omega) (by omega) hl
def fits (v : Int) : Prop := v < 9223372036854775808
def listW (l : List Int) : List Int := numB (l.length : Int) ++ l.flatMap numB
def moveW (m : api_Move) : List Int := numB (IntKind.i64.wrap (m.To + 1)) ++ m.Ops
def rowW (p : Int × List api_Move) : List Int := numB (IntKind.i64.wrap (p.1 + 1)) ++ p.2.flatMap moveW
def stW (s : api_State) : List Int := listW s.L ++ listW s.R
def st2W (s : api_State) : List Int := (s.Rule.zip s.Next).flatMap rowW
def cntW (c : Arr2) : List Int := numB c.a0 ++ numB c.a1
def magic : List Int := [114, 100, 100, 108]
def encS (a : api_Auto) : List Int := magic ++ (ArrN.list 256 a.Split.Of ++ (numB (a.Counts.length : Int) ++ (a.Counts.flatMap cntW ++ (numB (a.States.length : Int) ++ (a.States.flatMap stW ++ a.States.flatMap st2W)))))
/-- Numbers that fit, and fuel enough for all lists. -/
structure EncOk (K : Nat) (a : api_Auto) : Prop where
  k : 300 ≤ K
  cl : a.Counts.length < K ∧ a.Counts.length ≤ 9223372036854775807
  sl : a.States.length < K ∧ a.States.length ≤ 9223372036854775807
  cn : ∀ c ∈ a.Counts, fits c.a0 ∧ fits c.a1
  st : ∀ s ∈ a.States, stOk K s ∧ (∀ x ∈ s.L, fits x) ∧ (∀ x ∈ s.R, fits x) ∧ s.Rule.length = s.Next.length
theorem list_len (n : Nat) (a : ArrN) : (ArrN.list n a).length = n := by simp [ArrN.list]
end Go.Rv

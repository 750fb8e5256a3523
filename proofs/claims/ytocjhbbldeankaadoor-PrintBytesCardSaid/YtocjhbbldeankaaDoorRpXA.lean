/- Print, plainly: a byte as it stands in a pattern; the law PrintBytes. -/
import Derived.Test.YtocjhbbldeankaaDoorRpSO
namespace Go.Rv
def hxN (n : Nat) : Nat := if n < 10 then 48 + n else 87 + n
/-- A byte as it stands in a pattern. -/
def pbL (c : Nat) : List Nat :=
  if (specN c || c == 45) = true then [92, c] else if c = 10 then [92, 110] else if c = 9 then [92, 116] else if c = 13 then [92, 114]
  else if c < 32 ∨ 126 < c then [92, 120, hxN (c / 16), hxN (c % 16)] else [c]
theorem Byte_all : ∀ c : _root_.Fin 256, print_Byte 70 ((c.val : Nat) : Int) = some (toB (pbL c.val)) := by decide +kernel
theorem Byte_ok {K c : Nat} (h : c < 256) (hK : 70 ≤ K) : print_Byte K (c : Int) = some (toB (pbL c)) := print_Byte_le hK _ _ (Byte_all ⟨c, h⟩)
def unB : List Nat → Nat
  | [92, 110] => 10
  | [92, 116] => 9
  | [92, 114] => 13
  | [92, 120, h, l] => 16 * (hexN h).getD 0 + (hexN l).getD 0
  | [92, c] => c
  | [c] => c
  | _ => 0
theorem unB_all : ∀ c : _root_.Fin 256, unB (bs (toB (pbL c.val))) = c.val := by decide +kernel
theorem size_all : ∀ c : _root_.Fin 256, 1 ≤ (toB (pbL c.val)).size ∧ (toB (pbL c.val)).size ≤ 4 := by decide +kernel
theorem seen_all : ∀ c : _root_.Fin 256, ∀ i : _root_.Fin 4, i.val < (toB (pbL c.val)).size → 32 ≤ bt (toB (pbL c.val)) ((i.val : Nat) : Int) ∧ bt (toB (pbL c.val)) ((i.val : Nat) : Int) ≤ 126 := by decide +kernel
theorem plain_all : ∀ c : _root_.Fin 256, (97 ≤ c.val ∧ c.val ≤ 122 ∨ 65 ≤ c.val ∧ c.val ≤ 90 ∨ 48 ≤ c.val ∧ c.val ≤ 57) → (toB (pbL c.val)).data = (ofBytes [((c.val : Nat) : Int)]).data := by decide +kernel
theorem bytes_loop (K : Nat) (a b : Int) (x y : ByteArray) (hx : ∀ i : Nat, i < x.size → 32 ≤ bt x (i : Int) ∧ bt x (i : Int) ≤ 126) (hs : x.size ≤ 4) :
    ∀ (k i : Nat), x.size < i + k → i ≤ x.size → l5_PrintBytes_l0 K k a b true x y (x.size : Int) (i : Int) = l5_PrintBytes_l0 K 1 a b true x y (x.size : Int) (x.size : Int) := by
  intro k
  induction k with
  | zero => intro i h1 h2; omega
  | succ k ih =>
    intro i h1 h2
    by_cases hi : i < x.size
    · obtain ⟨h3, h4⟩ := hx i hi
      rw [l5_PrintBytes_l0]
      dsimp only
      rw [decide_eq_true (by omega : (i : Int) < (x.size : Int)), cond_true, ck_pos ⟨by omega, by omega⟩, decide_eq_false (by omega), cond_false, decide_eq_false (by omega), cond_false]
      have e : IntKind.i64.wrap ((i : Int) + 1) = ((i + 1 : Nat) : Int) := by rw [IntKind.wrap_i64]; omega
      rw [e]
      exact ih (i + 1) (by omega) (by omega)
    · have : i = x.size := by omega
      subst this
      rw [l5_PrintBytes_l0, l5_PrintBytes_l0]
      dsimp only
      rw [decide_eq_false (by omega), cond_false, cond_false]
theorem pbj2_ok (K : Nat) (a b : Int) (x y : ByteArray) (p : Bool) (h1 : 1 ≤ x.size) (h2 : x.size ≤ 4) (he : ((x.toList == y.toList) == (a == b)) = true) (hp : p = true → x.toList = (ofBytes [a]).toList) : l5_PrintBytes_j2 K a b true x y p = some true := by
  rw [l5_PrintBytes_j2, cond_true, decide_eq_true (by omega), cond_true, decide_eq_true (by omega), cond_true, he, cond_true]
  cases p with
  | false => rfl
  | true => simp [hp rfl]
theorem Bytes_plain (a b : Int) (ha : 0 ≤ a ∧ a < 256) (hb : 0 ≤ b ∧ b < 256) : ∃ K, l5_PrintBytes K a b = some true := by
  obtain ⟨c, rfl⟩ : ∃ c : Nat, a = (c : Int) := ⟨a.toNat, by omega⟩
  obtain ⟨d, rfl⟩ : ∃ d : Nat, b = (d : Int) := ⟨b.toNat, by omega⟩
  have hc : c < 256 := by omega
  have hd : d < 256 := by omega
  refine ⟨200, ?_⟩
  obtain ⟨s1, s2⟩ := size_all ⟨c, hc⟩
  have hsee := seen_all ⟨c, hc⟩
  have hpl := plain_all ⟨c, hc⟩
  simp only at s1 s2 hsee hpl
  have he : (((toB (pbL c)).toList == (toB (pbL d)).toList) == ((c : Int) == (d : Int))) = true := by
    by_cases h : c = d
    · subst h; simp
    · have h2 : ¬ (toB (pbL c)).toList = (toB (pbL d)).toList := by
        intro hq
        rw [ByteArray.toList_eq, ByteArray.toList_eq] at hq
        have e1 := unB_all ⟨c, hc⟩
        have e2 := unB_all ⟨d, hd⟩
        simp only [bs, hq] at e1 e2
        omega
      have h3 : ¬ (c : Int) = (d : Int) := by omega
      rw [beq_eq_false_iff_ne.2 h2, beq_eq_false_iff_ne.2 h3]; rfl
  rw [l5_PrintBytes, shown_at (by decide), Option.bind_some, Byte_ok hc (by decide), Option.bind_some, Byte_ok hd (by decide), Option.bind_some]
  have hl := bytes_loop 200 c d (toB (pbL c)) (toB (pbL d)) (fun i hi => hsee ⟨i, by omega⟩ hi) s2 200 0 (by omega) (Nat.zero_le _)
  rw [show ((0 : Nat) : Int) = 0 from rfl] at hl
  rw [hl, l5_PrintBytes_l0]
  dsimp only
  rw [decide_eq_false (by omega), cond_false]
  have key : ∀ p : Bool, (p = true → (97 ≤ c ∧ c ≤ 122 ∨ 65 ≤ c ∧ c ≤ 90 ∨ 48 ≤ c ∧ c ≤ 57)) → l5_PrintBytes_j2 200 (c : Int) (d : Int) true (toB (pbL c)) (toB (pbL d)) p = some true := fun p hp =>
    pbj2_ok _ _ _ _ _ p s1 s2 he fun h => by rw [ByteArray.toList_eq, ByteArray.toList_eq, hpl (hp h)]
  by_cases q1 : (c : Int) ≥ 97
  · by_cases q2 : (c : Int) ≤ 122
    · rw [decide_eq_true q1, cond_true, decide_eq_true q2, cond_true]; exact key _ fun _ => by omega
    · rw [decide_eq_true q1, cond_true, decide_eq_false q2, cond_false, decide_eq_true (by omega), cond_true, decide_eq_false (by omega), cond_false, decide_eq_true (by omega), cond_true]; exact key _ fun h => by have := of_decide_eq_true h; omega
  · rw [decide_eq_false q1, cond_false]
    by_cases q3 : (c : Int) ≥ 65
    · rw [decide_eq_true q3, cond_true]
      by_cases q4 : (c : Int) ≤ 90
      · rw [decide_eq_true q4, cond_true]; exact key _ fun _ => by omega
      · rw [decide_eq_false q4, cond_false, decide_eq_true (by omega), cond_true]; exact key _ fun h => by have := of_decide_eq_true h; omega
    · rw [decide_eq_false q3, cond_false]
      by_cases q5 : (c : Int) ≥ 48
      · rw [decide_eq_true q5, cond_true]; exact key _ fun h => by have := of_decide_eq_true h; omega
      · rw [decide_eq_false q5, cond_false]; exact key _ fun h => by cases h
end Go.Rv

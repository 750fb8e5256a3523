/- The parser, plainly, 3: bounds, names, classes, atoms that are no groups. -/
import Derived.Test.YtocjhbbldeankaaDoorRpSJ
namespace Go.Rv
theorem RdB.mono {s : ByteArray} {ns : List aNd} {d w : Int} {l l' : List Nat} {i i' : Nat} {f : Option (Int × Int × syp)} {x : Re (Int × Int)} (h : RdB s ns d w l i f x) (hl : l <:+ l') (hi : i' ≤ i) : RdB s ns d w l' i' f x := by
  cases x with
  | ok x r => exact ⟨h.1, h.2.trans hl⟩
  | err k x =>
    obtain ⟨⟨lo, hi', j, h1, h2, h3⟩, h4⟩ := h
    exact ⟨⟨lo, hi', j, h1, by omega, h3⟩, h4⟩
section
variable (K : Nat) {s : ByteArray} {i : Nat} {w : Int} {ns : List aNd} {d : Int}
/- Names. -/
theorem sletter (c : Nat) : sy_letter K (c : Int) = some (letterN c) := by
  have e95 : ((c : Int) == 95) = (c == 95) := by rw [Bool.eq_iff_iff, beq_iff_eq, beq_iff_eq]; omega
  have g1 : decide ((c : Int) ≥ 97) = decide (97 ≤ c) := by rw [Bool.eq_iff_iff, decide_eq_true_eq, decide_eq_true_eq]; omega
  have g2 : decide ((c : Int) ≤ 122) = decide (c ≤ 122) := by rw [Bool.eq_iff_iff, decide_eq_true_eq, decide_eq_true_eq]; omega
  have g3 : decide ((c : Int) ≥ 65) = decide (65 ≤ c) := by rw [Bool.eq_iff_iff, decide_eq_true_eq, decide_eq_true_eq]; omega
  have g4 : decide ((c : Int) ≤ 90) = decide (c ≤ 90) := by rw [Bool.eq_iff_iff, decide_eq_true_eq, decide_eq_true_eq]; omega
  rw [sy_letter, letterN, e95, g1, g2, g3, g4]
  cases decide (97 ≤ c) <;> cases decide (c ≤ 122) <;> cases decide (65 ≤ c) <;> cases decide (c ≤ 90) <;> simp
theorem Name_l0 (t : ByteArray) (ht : t.size ≤ 9223372036854775807) : ∀ (m k i : Nat), t.size - i = m → i ≤ t.size → m < k → 0 < i →
    sy_Name_l0 K k t (t.size : Int) (i : Int) = some (((bs t).drop i).all (fun c => letterN c || isDig c) && decide (t.size ≤ 32)) := by
  intro m
  induction m with
  | zero =>
    intro k i hm hi hk h0
    obtain ⟨k, rfl⟩ : ∃ k', k = k' + 1 := ⟨k - 1, by omega⟩
    rw [sy_Name_l0]
    dsimp only
    have e1 : decide ((i : Int) < (t.size : Int)) = false := by simp; omega
    have e2 : decide ((t.size : Int) ≥ 1) = true := by simp; omega
    have e3 : decide ((t.size : Int) ≤ 32) = decide (t.size ≤ 32) := by rw [Bool.eq_iff_iff, decide_eq_true_eq, decide_eq_true_eq]; omega
    rw [e1, cond_false, e2, cond_true, e3, List.drop_eq_nil_of_le (by rw [bs_len]; omega)]
    simp
  | succ m ih =>
    intro k i hm hi hk h0
    obtain ⟨k, rfl⟩ : ∃ k', k = k' + 1 := ⟨k - 1, by omega⟩
    have hlt : i < t.size := by omega
    have hlt' : i < (bs t).length := by rw [bs_len]; exact hlt
    rw [sy_Name_l0]
    dsimp only
    have e1 : decide ((i : Int) < (t.size : Int)) = true := by simp; omega
    have hb : bt t (i : Int) = ((bs t)[i] : Int) := by rw [bt_bs, List.getElem?_eq_getElem hlt']; rfl
    rw [e1, cond_true, ck_pos ⟨by omega, by omega⟩, hb, sletter, Option.bind_some, List.drop_eq_getElem_cons hlt', List.all_cons]
    have e4 : ((i : Int) == 0) = false := by simp; omega
    have hr := ih k (i + 1) (by omega) (by omega) (by omega) (by omega)
    rw [w64s (n := i) (by omega)]
    cases letterN (bs t)[i] with
    | true => simp only [Bool.not_true, cond_false, Bool.true_or, Bool.true_and]; exact hr
    | false =>
      simp only [Bool.not_false, cond_true, e4, cond_false, sdigit, Option.bind_some, Bool.false_or]
      cases isDig (bs t)[i] with
      | true => simp only [Bool.not_true, cond_false, Bool.true_and]; exact hr
      | false => simp only [Bool.not_false, cond_true, Bool.false_and, sy_Name_j1]
theorem Name_ok (t : ByteArray) (hK : t.size < K) (ht : t.size ≤ 9223372036854775807) : sy_Name K t = some (nameOk (bs t)) := by
  obtain ⟨k, rfl⟩ : ∃ k', K = k' + 1 := ⟨K - 1, by omega⟩
  have hlen := bs_len t
  rw [sy_Name, sy_Name_l0]
  dsimp only
  by_cases h0 : t.size = 0
  · have e1 : decide ((0 : Int) < (t.size : Int)) = false := decide_eq_false (by omega)
    have e2 : decide ((t.size : Int) ≥ 1) = false := decide_eq_false (by omega)
    rw [e1, cond_false, e2, cond_false]
    have : bs t = [] := List.eq_nil_of_length_eq_zero (by omega)
    rw [this]; rfl
  · have e1 : decide ((0 : Int) < (t.size : Int)) = true := decide_eq_true (by omega)
    obtain ⟨c, r, hc⟩ : ∃ c r, bs t = c :: r := by
      cases hq : bs t with
      | nil => rw [hq] at hlen; simp at hlen; omega
      | cons c r => exact ⟨c, r, rfl⟩
    have hb : bt t (0 : Int) = (c : Int) := by
      have := bt_bs t 0
      rw [hc] at this
      exact this
    have hr := Name_l0 (k + 1) t ht (t.size - 1) k 1 rfl (by omega) (by omega) (by omega)
    rw [e1, cond_true, ck_pos (show (0 : Int) ≤ 0 ∧ (0 : Int) < (t.size : Int) from ⟨by omega, by omega⟩), hb, sletter, Option.bind_some]
    have e5 : IntKind.i64.wrap (0 + 1) = ((1 : Nat) : Int) := by decide
    simp only [beq_self_eq_true, cond_true, sy_Name_j1, e5]
    rw [hr, hc]
    rw [hc] at hlen
    simp only [nameOk, List.all_cons, List.drop_one, List.tail_cons, hlen]
    cases letterN c with
    | true => simp
    | false => simp
end
end Go.Rv

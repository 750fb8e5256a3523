/- TableLong, plainly. -/
import Derived.Test.YtaipjabggdifoaaRpT7
namespace Go.Rv
def selC (which : List Bool) (i : Nat) (c : Arr2) : Arr2 := if which.getD i false = true then ⟨c.a0, 4096⟩ else c
def mapC (which : List Bool) : Nat → List Arr2 → List Arr2
  | _, [] => []
  | i, c :: l => selC which i c :: mapC which (i + 1) l
def cntC (which : List Bool) : Nat → List Arr2 → Nat
  | _, [] => 0
  | i, _ :: l => (if which.getD i false = true then 1 else 0) + cntC which (i + 1) l
theorem cntC_le (which : List Bool) : ∀ (l : List Arr2) (i : Nat), cntC which i l ≤ l.length := by
  intro l
  induction l with
  | nil => intro i; simp [cntC]
  | cons c l ih =>
    intro i
    have := ih (i + 1)
    simp only [cntC, List.length_cons]
    split <;> omega
theorem mapC_len (which : List Bool) : ∀ (l : List Arr2) (i : Nat), (mapC which i l).length = l.length := by
  intro l
  induction l with
  | nil => intro i; rfl
  | cons c l ih => intro i; simp [mapC, ih]
theorem long_l0 (K : Nat) (which : List Bool) (xs : List Arr2) (hx : xs.length * 16 ≤ 140737488355328) (A : ArrN) (B : Int) (C : List Arr2) (D : List api_State) (E : ArrN) (F : Int) (G : List api_State) : ∀ (m k i : Nat) (many : Int) (acc : List Arr2), xs.length - i = m → i ≤ xs.length → acc.length = i → 0 ≤ many → many ≤ i →
    raddlelaw14_TableLong_l0 K (k + m) which true many xs (xs.length : Int) (i : Int) A B C D E F G acc = raddlelaw14_TableLong_l0 K k which true (many + cntC which i (xs.drop i)) xs (xs.length : Int) (xs.length : Int) A B C D E F G (acc ++ mapC which i (xs.drop i)) := by
  intro m
  induction m with
  | zero =>
    intro k i many acc hm hi _ _ _
    have : i = xs.length := by omega
    subst this
    simp [cntC, mapC]
  | succ m ih =>
    intro k i many acc hm hi ha h0 h1
    have hlt : i < xs.length := by omega
    have hroom : ∀ c : Arr2, roomy 16 (acc.length + [c].length) = true := fun c => roomy_iff.2 (by simp only [List.length_singleton, maxLen]; omega)
    have e1 : IntKind.i64.wrap ((i : Int) + 1) = ((i + 1 : Nat) : Int) := w64s (by omega)
    have e2 : IntKind.i64.wrap (many + 1) = many + 1 := w64 (by omega) (by omega)
    rw [List.drop_eq_getElem_cons hlt, mapC, cntC, show k + (m + 1) = (k + m) + 1 by omega, raddlelaw14_TableLong_l0]
    dsimp only
    rw [dl_true hlt, cond_true, geti_nat hlt, Option.bind_some]
    by_cases hw : i < which.length
    · rw [dl_true hw, cond_true, geti_nat hw, Option.bind_some]
      have hg : which.getD i false = which[i] := getD_lt hw
      cases hb : which[i] with
      | true =>
        rw [hb] at hg
        have hsel : selC which i xs[i] = Arr2.set xs[i] 1 4096 := by rw [selC, if_pos hg]; rfl
        rw [cond_true, raddlelaw14_TableLong_j1, ck_pos (hroom _), e1, e2, if_pos hg, hsel, ih k (i + 1) (many + 1) _ (by omega) (by omega) (by simp [ha]) (by omega) (by omega), List.append_assoc]
        have e3 : many + 1 + ((cntC which (i + 1) (xs.drop (i + 1)) : Nat) : Int) = many + ((1 + cntC which (i + 1) (xs.drop (i + 1)) : Nat) : Int) := by omega
        rw [e3]
        rfl
      | false =>
        rw [hb] at hg
        have hng : ¬ which.getD i false = true := by rw [hg]; decide
        have hsel : selC which i xs[i] = xs[i] := by rw [selC, if_neg hng]
        rw [cond_false, raddlelaw14_TableLong_j2, raddlelaw14_TableLong_j1, ck_pos (hroom _), e1, if_neg hng, hsel, ih k (i + 1) many _ (by omega) (by omega) (by simp [ha]) (by omega) (by omega), List.append_assoc, Nat.zero_add]
        rfl
    · have hng : ¬ which.getD i false = true := by simp [List.getD, List.getElem?_eq_none (show which.length ≤ i by omega)]
      have hsel : selC which i xs[i] = xs[i] := by rw [selC, if_neg hng]
      rw [dl_false (show which.length ≤ i by omega), cond_false, raddlelaw14_TableLong_j2, raddlelaw14_TableLong_j1, ck_pos (hroom _), e1, if_neg hng, hsel, ih k (i + 1) many _ (by omega) (by omega) (by simp [ha]) (by omega) (by omega), List.append_assoc, Nat.zero_add]
      rfl
theorem num4096 : (numB 4096).length = 2 := by decide
theorem numB_pos (v : Int) : 1 ≤ (numB v).length := by
  simp only [numB, numF]
  split <;> simp
theorem cnt_len (which : List Bool) : ∀ (l : List Arr2) (i : Nat), (∀ c ∈ l, cntP c = true) → (l.flatMap cntW).length ≤ ((mapC which i l).flatMap cntW).length ∧ ((mapC which i l).flatMap cntW).length ≤ (l.flatMap cntW).length + 3 * cntC which i l := by
  intro l
  induction l with
  | nil => intro i _; simp [mapC]
  | cons c l ih =>
    intro i h
    obtain ⟨h1, h2⟩ := ih (i + 1) (fun x hx => h x (List.mem_cons_of_mem _ hx))
    have hc := h c List.mem_cons_self
    simp only [cntP, Bool.and_eq_true, Bool.not_eq_true', decide_eq_false_iff_not] at hc
    have h3 := numB_pos c.a1
    have h4 : (numB c.a1).length ≤ (numB 4096).length := numF_mono 9 _ _ (by show c.a1.toNat ≤ (4096 : Int).toNat; omega)
    rw [num4096] at h4
    have h5 := num4096
    simp only [mapC, cntC, List.flatMap_cons, List.length_append]
    by_cases hw : which.getD i false = true
    · rw [if_pos hw, selC, if_pos hw]
      simp only [cntW, List.length_append]
      omega
    · rw [if_neg hw, selC, if_neg hw]
      omega
theorem Long_plain (a : api_Auto) (which : List Bool) (ha : Okay a) (hc : a.Counts.length * 16 ≤ 140737488355328) : ∃ K, raddlelaw14_TableLong K a which = some true := by
  have oa := few_okay ha
  have hfc : (fewS a).Counts.length * 16 ≤ 140737488355328 := by
    rw [fewS]
    split
    · simp
    · exact hc
  have hK := big_need (fewS a) (Nat.le_refl _)
  refine ⟨needK (fewS a), ?_⟩
  generalize needK (fewS a) = K at *
  rw [raddlelaw14_TableLong, shown_at hK.1, Option.bind_some, few_eq, Option.bind_some]
  generalize fewS a = x at *
  have hk : K = (K - x.Counts.length - 1 + 1) + x.Counts.length := by have := hK.2.1; omega
  have hloop := long_l0 K which x.Counts hfc x.Split.Of x.Split.Many x.Counts x.States x.Split.Of x.Split.Many x.States x.Counts.length (K - x.Counts.length - 1 + 1) 0 0 [] (by omega) (by omega) rfl (by omega) (by omega)
  rw [← hk] at hloop
  refine Eq.trans hloop ?_
  rw [List.drop_zero, List.nil_append, Int.zero_add, raddlelaw14_TableLong_l0]
  dsimp only
  rw [dl_false (Nat.le_refl _), cond_false]
  have ho : Okay ⟨⟨x.Split.Of, x.Split.Many⟩, mapC which 0 x.Counts, x.States⟩ := ⟨oa.split, by rw [mapC_len]; exact oa.counts, oa.states, oa.st⟩
  have hKo : bigOf ⟨⟨x.Split.Of, x.Split.Many⟩, mapC which 0 x.Counts, x.States⟩ K := ⟨hK.1, by rw [mapC_len]; exact hK.2.1, hK.2.2⟩
  have h1 := (encode_both K x oa hK).1
  have h2 := (encode_both K _ ho hKo).1
  have hx : api_Auto.mk (api_Split.mk x.Split.Of x.Split.Many) x.Counts x.States = x := rfl
  rw [hx, h1, Option.bind_some, h2, Option.bind_some]
  by_cases rx : rightP x = true
  · rw [if_pos rx]
    by_cases ry : rightP ⟨⟨x.Split.Of, x.Split.Many⟩, mapC which 0 x.Counts, x.States⟩ = true
    · rw [if_pos ry]
      have sx := rightS.1 rx
      obtain ⟨g1, g2⟩ := cnt_len which x.Counts 0 sx.cn
      have hl := sx.len
      have hn := cntC_le which x.Counts 0
      have hcl := sx.cl
      have hlen : (encS ⟨⟨x.Split.Of, x.Split.Many⟩, mapC which 0 x.Counts, x.States⟩).length + (x.Counts.flatMap cntW).length = (encS x).length + ((mapC which 0 x.Counts).flatMap cntW).length := by
        simp only [encS, List.length_append, mapC_len]
        omega
      generalize (encS ⟨⟨x.Split.Of, x.Split.Many⟩, mapC which 0 x.Counts, x.States⟩) = q at *
      generalize encS x = p at *
      have b0 : ((0 : Int) != 0) = false := rfl
      simp only [LIM] at hl
      have d1 : decide ((q.length : Int) ≥ (p.length : Int)) = true := decide_eq_true (by omega)
      have d2 : decide ((q.length : Int) ≤ IntKind.i64.wrap ((p.length : Int) + IntKind.i64.wrap (3 * ((cntC which 0 x.Counts : Nat) : Int)))) = true := by
        rw [w64 (n := 3 * _) (by omega) (by omega), w64 (by omega) (by omega)]
        exact decide_eq_true (by omega)
      simp only [b0, cond_false, cond_true, d1, d2]
    · rw [if_neg ry]
      rfl
  · rw [if_neg rx]
    by_cases ry : rightP ⟨⟨x.Split.Of, x.Split.Many⟩, mapC which 0 x.Counts, x.States⟩ = true
    · rw [if_pos ry]
      rfl
    · rw [if_neg ry]
      rfl
end Go.Rv

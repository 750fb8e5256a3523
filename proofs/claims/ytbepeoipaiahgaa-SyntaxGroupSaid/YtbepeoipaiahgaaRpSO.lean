/- Patterns, plainly: Parse; trees, and whether nodes are one. -/
import Derived.Test.YtbepeoipaiahgaaRpSN
namespace Go.Rv
theorem shown_200 : raddlelaw04_shown 200 = some true := by decide +kernel
theorem shown_at {K : Nat} (h : 200 ≤ K) : raddlelaw04_shown K = some true := raddlelaw04_shown_le h _ shown_200
theorem minIf (c n : Nat) : (if (c : Int) < (n : Int) then (c : Int) else (n : Int)) = ((min c n : Nat) : Int) := by
  split <;> omega
/-- What Parse tells. -/
def parseOut (n : Nat) : Re Pt → List api_Node × Int × Int
  | .err k x => ([], ((n - x.length : Nat) : Int), (k : Int))
  | .ok t [] => if 1024 < t.sz then ([], 0, 3) else (t.flat 0, 0, 0)
  | .ok _ (c :: r) => ([], ((n - (c :: r).length : Nat) : Int), 41)
theorem out_err (n k : Nat) (x : List Nat) : parseOut n (.err k x) = ([], ((n - x.length : Nat) : Int), (k : Int)) := rfl
theorem out_more (n : Nat) (t : Pt) (c : Nat) (r : List Nat) : parseOut n (.ok t (c :: r)) = ([], ((n - (c :: r).length : Nat) : Int), 41) := rfl
theorem out_ok (n : Nat) {t : Pt} (h : ¬ 1024 < t.sz) : parseOut n (.ok t []) = (t.flat 0, 0, 0) := by rw [parseOut, if_neg h]
theorem Parse_ok (K : Nat) (hK : 6000 ≤ K) {s : ByteArray} (hs : s.size ≤ 1024) {res : Re Pt} (h : PR (.alt 64) (bs s) res) : syntax_Parse K s = some (parseOut s.size res) := by
  have hat : At s 0 (bs s) := ⟨by omega, by simp, by omega⟩
  have hsf := h.suf
  have hl := hat.len
  have hsim := sim K hK s h K 0 0 [] (by omega) hat (by simp; omega)
  rw [syntax_Parse, show decide ((s.size : Int) > 1024) = false from decide_eq_false (by omega), cond_false, syntax_parser_alternative]
  have e0 : (pst s ((0 : Nat) : Int) 0 0 [] (dp 64)) = { reader := { s := s, at_ := 0, where_ := 0, e := 0 }, nodes := [], deep := 0 } := rfl
  rw [e0] at hsim
  cases res with
  | err k x =>
    obtain ⟨a, i', ns', e1, h1, h2⟩ := hsim
    have hk := hsf.2.1
    have hk' : (k : Int) ≠ 0 := by omega
    rw [e1, Option.bind_some]
    simp only
    rw [peek_bad K hk', Option.bind_some]
    have : ((k : Int) != 0) = true := by simpa using hk'
    simp only [cond_false, syntax_Parse_j0, this, cond_true, parseOut]
  | ok t r =>
    have hsh := short h
    simp only [Short] at hsh
    simp only [Out] at hsim
    rw [hsim, Option.bind_some]
    have hat2 := hat.suffix hsf
    simp only
    cases r with
    | nil =>
      rw [peek_nil K hat2, Option.bind_some]
      simp only [cond_false, syntax_Parse_j0, bne_self_eq_false, List.nil_append, List.length_nil, Pt.flat_len, parseOut]
      by_cases hb : 1024 < t.sz
      · rw [if_pos hb, show decide ((t.sz : Int) > 1024) = true from decide_eq_true (by omega), cond_true]
      · rw [if_neg hb, show decide ((t.sz : Int) > 1024) = false from decide_eq_false (by omega), cond_false]
    | cons c r =>
      rw [peek_cons K hat2, Option.bind_some]
      simp only [cond_true]
      rw [fail_ok, Option.bind_some]
      simp only [syntax_Parse_j0, show ((41 : Int) != 0) = true from rfl, cond_true, parseOut]

/-- Trees as they may be; rows of such. -/
def Pt.wf : Bool → Pt → Prop
  | true, .empty => True
  | true, .set s => s ≠ z4
  | true, .ref nm => nameOk nm = true ∧ ∀ c ∈ nm, c < 256
  | true, .rep t lo hi => t.wf true ∧ 0 ≤ lo ∧ lo ≤ 4096 ∧ (hi = -1 ∨ (1 ≤ hi ∧ lo ≤ hi ∧ hi ≤ 4096))
  | true, .cat f => 2 ≤ f.len ∧ f.wf false
  | true, .alt f => 2 ≤ f.len ∧ f.wf false
  | false, .nil => True
  | false, .cons t f => t.wf true ∧ f.wf false
  | _, _ => False
theorem pFin_bounds {w l r : List Nat} {lo hi : Int} {bad : Bool} {x : Int × Int} (h : pFin w lo hi bad l = .ok x r) : x = (lo, hi) ∧ bad = false ∧ lo ≤ 4096 ∧ hi ≤ 4096 ∧ hi ≠ 0 ∧ ¬ (0 < hi ∧ hi < lo) := by
  unfold pFin at h
  split at h
  · cases h
  · split at h
    · cases h
    · split at h
      · cases h
      · rename_i hb
        cases h
        simp only [not_or, Bool.not_eq_true] at hb
        exact ⟨rfl, hb.1, by omega, by omega, hb.2.2.2.1, hb.2.2.2.2⟩
theorem pTimes_bounds {l r : List Nat} {lo hi : Int} (h : pTimes l = some (.ok (lo, hi) r)) : 0 ≤ lo ∧ lo ≤ 4096 ∧ (hi = -1 ∨ (1 ≤ hi ∧ lo ≤ hi ∧ hi ≤ 4096)) := by
  unfold pTimes at h
  split at h
  · cases h
  · split at h
    · cases h; decide
    split at h
    · cases h; decide
    split at h
    · cases h; decide
    split at h
    · simp only [Option.some.injEq] at h
      unfold pBounds at h
      split at h
      · rename_i r2 he
        split at h
        · obtain ⟨h1, h2, h3, h4, h5, h6⟩ := pFin_bounds h
          cases h1
          simp only [Bool.or_eq_false_iff, decide_eq_false_iff_not] at h2
          omega
        · obtain ⟨h1, h2, h3, h4, h5, h6⟩ := pFin_bounds h
          cases h1
          simp only [decide_eq_false_iff_not] at h2
          omega
      · obtain ⟨h1, h2, h3, h4, h5, h6⟩ := pFin_bounds h
        cases h1
        simp only [decide_eq_false_iff_not] at h2
        omega
    · cases h
theorem st_ne {p : Nat → Bool} {b : Nat} (hb : b < 256) (h : p b = true) : st p ≠ z4 := fun he => by
  have he' : st p = st (fun _ => false) := he.trans st_none
  have := st_inj he' b hb
  rw [h] at this
  cases this
theorem pOne_lt {l r : List Nat} {b : Nat} (hl : ∀ c ∈ l, c < 256) (h : pOne l = .ok b r) : b < 256 := by
  unfold pOne at h
  split at h
  · cases h
  · rename_i c l
    split at h
    · unfold pEsc at h
      split at h
      · cases h
      · rename_i c2 l
        split at h
        · cases h; decide
        split at h
        · cases h; decide
        split at h
        · cases h; decide
        split at h
        · unfold pPair at h
          split at h
          · split at h
            · rename_i a b ha hb
              have := hexN_lt ha
              have := hexN_lt hb
              cases h; omega
            · cases h
          · cases h
        split at h
        · cases h; exact hl b (by simp)
        · cases h
    · cases h; exact hl b (by simp)
theorem pLeaf_wf {l r : List Nat} {t : Pt} (hl : ∀ c ∈ l, c < 256) (h : pLeaf l = .ok t r) : t.wf true := by
  unfold pLeaf at h
  split at h
  · cases h
  · rename_i c l
    split at h
    · cases h
      exact st_ne (b := 0) (by decide) (by decide)
    split at h
    · unfold pName at h
      split at h
      · cases h
      · split at h
        · rename_i hn
          cases h
          exact ⟨hn, fun c hc => hl c (List.mem_cons_of_mem _ ((List.takeWhile_sublist _).subset hc))⟩
        · cases h
    split at h
    · cases h
    split at h
    · cases h
    split at h
    · rename_i b r' he
      have := pOne_lt hl he
      cases h
      exact st_ne (b := b) this (by simp)
    · cases h
def WfG : Goal → Re Pt → Prop
  | .alt _, .ok t _ => t.wf true
  | .altR _, .ok f _ => f.wf false
  | .row _, .ok t _ => t.wf true
  | .rowR _, .ok f _ => f.wf false
  | .item _, .ok t _ => t.wf true
  | .itemR t0, .ok t _ => t0.wf true → t.wf true
  | .atom _, .ok t _ => t.wf true
  | _, _ => True
theorem PR.mem {g : Goal} {l : List Nat} {t : Pt} {r : List Nat} (h : PR g l (.ok t r)) (hl : ∀ c ∈ l, c < 256) : ∀ c ∈ r, c < 256 := fun c hc => hl c (h.suf.subset hc)
theorem PR.wf {g : Goal} {l : List Nat} {res : Re Pt} (h : PR g l res) : (∀ c ∈ l, c < 256) → WfG g res := by
  induction h with
  | @alt1 n l t r f r' h1 h2 ih1 ih2 =>
    intro hl
    have w1 := ih1 hl
    have w2 := ih2 (h1.mem hl)
    simp only [WfG] at w1 w2 ⊢
    rcases rows_shape h2 (.inr rfl) rfl with rfl | ⟨t', g', rfl, _⟩
    · exact w1
    · exact ⟨by simp [Pt.len], w1, w2⟩
  | altR1 h1 _ ih1 ih2 =>
    intro hl
    have hl' := fun c hc => hl c (List.mem_cons_of_mem _ hc)
    exact ⟨ih1 hl', ih2 (h1.mem hl')⟩
  | @row1 n l f r h1 ih1 =>
    intro hl
    have w1 := ih1 hl
    simp only [WfG] at w1 ⊢
    rcases rows_shape h1 (.inl rfl) rfl with rfl | ⟨t, g, rfl, rfl | ⟨t', g', rfl⟩⟩
    · trivial
    · exact w1.1
    · exact ⟨by simp [Pt.len], w1⟩
  | rowR1 _ h1 _ ih1 ih2 => exact fun hl => ⟨ih1 hl, ih2 (h1.mem hl)⟩
  | @item1 n l t r res h1 h2 ih1 ih2 =>
    intro hl
    have w1 := ih1 hl
    have w2 := ih2 (h1.mem hl)
    cases res with
    | err => trivial
    | ok t' r' => exact w2 w1
  | @itemR1 t l lo hi r res h1 h2 ih =>
    intro hl
    have w2 := ih (fun c hc => hl c ((pTimes_suf h1).subset hc))
    cases res with
    | err => trivial
    | ok t' r' => exact fun ht => w2 ⟨ht, pTimes_bounds h1⟩
  | itemR0 => exact fun _ ht => ht
  | atomG h1 ih => exact fun hl => ih (fun c hc => hl c (List.mem_cons_of_mem _ hc))
  | atomC1 _ hz _ => exact fun _ => hz
  | @atomL n l _ _ =>
    intro hl
    cases hq : pLeaf l with
    | err => trivial
    | ok t r => exact pLeaf_wf hl hq
  | altR0 => exact fun _ => trivial
  | rowR0 => exact fun _ => trivial
  | _ => exact fun _ => trivial
end Go.Rv

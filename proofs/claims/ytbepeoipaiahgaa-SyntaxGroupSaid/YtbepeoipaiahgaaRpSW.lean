/- SyntaxGroup, plainly: a pattern in parentheses is the same tree. -/
import Derived.Test.YtbepeoipaiahgaaRpSC
namespace Go.Rv
/-- An answer behind whose text a parenthesis stands. -/
def Xt {α : Type} : Re α → Re α → Prop
  | .ok x r, b => b = .ok x (r ++ [41])
  | .err k w, b => if k = 40 then (match b with | .err _ _ => True | .ok _ r => r = []) else b = .err k (w ++ [41])
theorem Xt.e40 {α : Type} {w : List Nat} (k : Nat) (x : List Nat) : Xt (α := α) (.err 40 w) (.err k x) := by simp [Xt]
theorem Xt.o40 {α : Type} {w : List Nat} (a : α) : Xt (α := α) (.err 40 w) (.ok a []) := by simp [Xt]
theorem Xt.err {α : Type} {w : List Nat} {k : Nat} (hk : k ≠ 40) : Xt (α := α) (.err k w) (.err k (w ++ [41])) := by simp [Xt, hk]
theorem pPair_ext (w l : List Nat) : Xt (pPair w l) (pPair (w ++ [41]) (l ++ [41])) := by
  match l with
  | [] => exact Xt.e40 _ _
  | [x] =>
    simp only [pPair, List.cons_append, List.nil_append]
    have : hexN 41 = none := rfl
    rw [this]
    cases hexN x <;> exact Xt.e40 _ _
  | x :: y :: r =>
    simp only [pPair, List.cons_append]
    cases hexN x with
    | none => exact Xt.err (by decide)
    | some a =>
      cases hexN y with
      | none => exact Xt.err (by decide)
      | some b => exact rfl
theorem pEsc_ext (w l : List Nat) : Xt (pEsc w l) (pEsc (w ++ [41]) (l ++ [41])) := by
  cases l with
  | nil => exact Xt.o40 41
  | cons c r =>
    simp only [pEsc, List.cons_append]
    split
    · exact rfl
    split
    · exact rfl
    split
    · exact rfl
    split
    · exact pPair_ext w r
    split
    · exact rfl
    · exact Xt.err (by decide)
theorem pOne_ext (l : List Nat) : Xt (pOne l) (pOne (l ++ [41])) := by
  cases l with
  | nil => exact Xt.o40 41
  | cons c r =>
    simp only [pOne, List.cons_append]
    split
    · exact pEsc_ext (c :: r) r
    · exact rfl
theorem pFin_ext (w : List Nat) (lo hi : Int) (bad : Bool) (l : List Nat) : Xt (pFin w lo hi bad l) (pFin (w ++ [41]) lo hi bad (l ++ [41])) := by
  cases l with
  | nil => exact Xt.e40 _ _
  | cons c r =>
    simp only [pFin, List.cons_append]
    split
    · exact Xt.err (by decide)
    split
    · exact Xt.err (by decide)
    · exact rfl
theorem while_ext (p : Nat → Bool) (hp : p 41 = false) : ∀ l : List Nat, (l ++ [41]).takeWhile p = l.takeWhile p ∧ (l ++ [41]).dropWhile p = l.dropWhile p ++ [41] := by
  intro l
  induction l with
  | nil => simp [hp]
  | cons c l ih =>
    simp only [List.cons_append, List.takeWhile_cons, List.dropWhile_cons]
    cases p c with
    | true => simp only [if_true, ih.1, ih.2, and_self]
    | false => simp
theorem dig_ext (l : List Nat) : digNext (l ++ [41]) = digNext l := by
  cases l <;> rfl
theorem head_ext {l : List Nat} {c : Nat} (hc : c ≠ 41) (h : l.head? ≠ some c) : (l ++ [41]).head? ≠ some c := by
  cases l with
  | nil => simpa using fun h => hc h.symm
  | cons a r => simpa using h
theorem pBounds_other (w l : List Nat) (h : (l.dropWhile isDig).head? ≠ some 44) : pBounds w l = pFin w (numV (l.takeWhile isDig)) (numV (l.takeWhile isDig)) (decide (numV (l.takeWhile isDig) < 0)) (l.dropWhile isDig) := by
  unfold pBounds
  split
  · rename_i r he
    rw [he] at h
    exact absurd rfl h
  · rfl
theorem pBounds_ext (w l : List Nat) : Xt (pBounds w l) (pBounds (w ++ [41]) (l ++ [41])) := by
  obtain ⟨h1, h2⟩ := while_ext isDig rfl l
  by_cases hc : (l.dropWhile isDig).head? = some 44
  · obtain ⟨r, hr⟩ : ∃ r, l.dropWhile isDig = 44 :: r := by
      cases hq : l.dropWhile isDig with
      | nil => rw [hq] at hc; cases hc
      | cons c r => rw [hq] at hc; simp at hc; exact ⟨r, by rw [hc]⟩
    unfold pBounds
    rw [h1, h2, hr]
    simp only [List.cons_append]
    obtain ⟨h3, h4⟩ := while_ext isDig rfl r
    rw [dig_ext, h3, h4]
    split
    · exact pFin_ext _ _ _ _ _
    · exact pFin_ext _ _ _ _ _
  · rw [pBounds_other w l hc, pBounds_other (w ++ [41]) (l ++ [41]) (by rw [h2]; exact head_ext (by decide) hc), h1, h2]
    exact pFin_ext _ _ _ _ _
theorem pTimes_ext (l : List Nat) : (pTimes l = none → pTimes (l ++ [41]) = none) ∧ (∀ x, pTimes l = some x → ∃ y, pTimes (l ++ [41]) = some y ∧ Xt x y) := by
  cases l with
  | nil => exact ⟨fun _ => rfl, fun x h => by cases h⟩
  | cons c r =>
    simp only [pTimes, List.cons_append, dig_ext]
    split
    · exact ⟨fun h => (by cases h), fun x h => by cases h; exact ⟨_, rfl, rfl⟩⟩
    split
    · exact ⟨fun h => (by cases h), fun x h => by cases h; exact ⟨_, rfl, rfl⟩⟩
    split
    · exact ⟨fun h => (by cases h), fun x h => by cases h; exact ⟨_, rfl, rfl⟩⟩
    split
    · exact ⟨fun h => (by cases h), fun x h => by cases h; exact ⟨_, rfl, pBounds_ext (c :: r) r⟩⟩
    · exact ⟨fun _ => rfl, fun x h => by cases h⟩
theorem pMember_ext (l : List Nat) : Xt (pMember l) (pMember (l ++ [41])) := by
  cases l with
  | nil => exact Xt.o40 41
  | cons c r =>
    simp only [pMember, List.cons_append]
    split
    · exact Xt.err (by decide)
    · exact pOne_ext (c :: r)
theorem pSpan_other {l r : List Nat} {lo : Nat} (h : pMember l = .ok lo r) (hr : r.head? ≠ some 45) : pSpan l = .ok (lo, lo) r := by
  unfold pSpan
  rw [h]
  split
  · rename_i h; cases h
  · rename_i h; cases h; exact absurd rfl hr
  · rename_i h; cases h; rfl
theorem pSpan_ext (l : List Nat) : Xt (pSpan l) (pSpan (l ++ [41])) := by
  have h1 := pMember_ext l
  unfold pSpan
  cases hq : pMember l with
  | err k w =>
    rw [hq] at h1
    simp only [Xt] at h1
    split at h1
    · rename_i hk
      subst hk
      cases hq2 : pMember (l ++ [41]) with
      | err k2 w2 => exact Xt.e40 _ _
      | ok x r =>
        rw [hq2] at h1
        simp only at h1
        subst h1
        exact Xt.o40 _
    · rename_i hk
      rw [h1]
      exact Xt.err hk
  | ok lo r =>
    rw [hq] at h1
    simp only [Xt] at h1
    by_cases hc : r.head? = some 45
    · obtain ⟨r, rfl⟩ : ∃ r', r = 45 :: r' := by
        cases r with
        | nil => cases hc
        | cons c r => simp at hc; exact ⟨r, by rw [hc]⟩
      rw [h1]
      simp only [List.cons_append]
      have h2 := pMember_ext r
      cases hq2 : pMember r with
      | err k w =>
        rw [hq2] at h2
        simp only [Xt] at h2
        split at h2
        · rename_i hk
          subst hk
          cases hq3 : pMember (r ++ [41]) with
          | err k2 w2 => exact Xt.e40 _ _
          | ok x r3 =>
            rw [hq3] at h2
            simp only at h2
            subst h2
            simp only
            split
            · exact Xt.e40 _ _
            · exact Xt.o40 _
        · rename_i hk
          rw [h2]
          exact Xt.err hk
      | ok hi r2 =>
        rw [hq2] at h2
        simp only [Xt] at h2
        rw [h2]
        simp only
        split
        · exact Xt.err (by decide)
        · exact rfl
    · have e1 := pSpan_other hq hc
      have e2 := pSpan_other h1 (head_ext (by decide) hc)
      unfold pSpan at e1 e2
      rw [hq] at e1
      rw [e1, e2]
      exact rfl
theorem pName_ext (l : List Nat) : Xt (pName l) (pName (l ++ [41])) := by
  unfold pName
  have hgen : ∀ l : List Nat, (l.dropWhile (fun c => c != 125) = [] ∧ (l ++ [41]).dropWhile (fun c => c != 125) = []) ∨ ((l ++ [41]).takeWhile (fun c => c != 125) = l.takeWhile (fun c => c != 125) ∧ (l ++ [41]).dropWhile (fun c => c != 125) = l.dropWhile (fun c => c != 125) ++ [41] ∧ l.dropWhile (fun c => c != 125) ≠ []) := by
    intro l
    induction l with
    | nil => left; exact ⟨rfl, rfl⟩
    | cons c l ih =>
      simp only [List.cons_append, List.takeWhile_cons, List.dropWhile_cons]
      cases hc : (c != 125) with
      | true => simpa using ih
      | false => right; simp
  rcases hgen l with ⟨h1, h2⟩ | ⟨h1, h2, h3⟩
  · rw [h1, h2]
    exact Xt.e40 _ _
  · rw [h1, h2]
    cases hq : l.dropWhile (fun c => c != 125) with
    | nil => exact absurd hq h3
    | cons c r =>
      simp only [List.cons_append]
      split
      · exact rfl
      · exact Xt.err (by decide)
theorem pLeaf_ext {l : List Nat} (hl : l ≠ []) : Xt (pLeaf l) (pLeaf (l ++ [41])) := by
  cases l with
  | nil => exact absurd rfl hl
  | cons c r =>
    simp only [pLeaf, List.cons_append, dig_ext]
    split
    · exact rfl
    split
    · exact pName_ext r
    split
    · exact Xt.err (by decide)
    split
    · exact Xt.err (by decide)
    · have h1 := pOne_ext (c :: r)
      rw [List.cons_append] at h1
      cases hq : pOne (c :: r) with
      | ok b r2 =>
        rw [hq] at h1
        simp only [Xt] at h1
        rw [h1]
        exact rfl
      | err k w =>
        rw [hq] at h1
        simp only [Xt] at h1
        split at h1
        · rename_i hk
          subst hk
          cases hq2 : pOne (c :: (r ++ [41])) with
          | err k2 w2 => exact Xt.e40 _ _
          | ok x r3 =>
            rw [hq2] at h1
            simp only at h1
            subst h1
            exact Xt.o40 _
        · rename_i hk
          rw [h1]
          exact Xt.err hk
def Goal.withN : Goal → Nat → Goal
  | .alt _, n => .alt n
  | .altR _, n => .altR n
  | .row _, n => .row n
  | .rowR _, n => .rowR n
  | .item _, n => .item n
  | .itemR t, _ => .itemR t
  | .atom _, n => .atom n
  | .spans f p, _ => .spans f p
def Goal.cap : Goal → Nat → Prop
  | .alt n, c => c ≤ n
  | .altR n, c => c ≤ n
  | .row n, c => c ≤ n
  | .rowR n, c => c ≤ n
  | .item n, c => c ≤ n
  | .itemR _, _ => True
  | .atom n, c => c ≤ n
  | .spans _ _, _ => True
theorem count_suf {r l : List Nat} (h : r <:+ l) : r.count 40 ≤ l.count 40 := h.sublist.count_le 40
theorem stop_ext {l : List Nat} (h : stopN l = true) : stopN (l ++ [41]) = true := by
  cases l with
  | nil => rfl
  | cons c r => exact h
theorem stop_ext' {l : List Nat} (h : stopN l = false) : stopN (l ++ [41]) = false := by
  cases l with
  | nil => cases h
  | cons c r => exact h
theorem cls_ext (l : List Nat) : clsHead (l ++ [41]) = ((clsHead l).1, (clsHead l).2 ++ [41]) := by
  cases l with
  | nil => rfl
  | cons c r =>
    by_cases hc : c = 94
    · subst hc; rfl
    · have : ∀ r : List Nat, clsHead (c :: r) = (false, c :: r) := fun r => by
        unfold clsHead
        split
        · rename_i h; cases h; exact absurd rfl hc
        · rfl
      rw [List.cons_append, this, this, List.cons_append]
/-- A pattern with a parenthesis behind it. -/
def XtG (g : Goal) (l : List Nat) (res : Re Pt) : Prop := ∃ res', PR g (l ++ [41]) res' ∧ Xt res res'
/-- What is made of an answer, by what is made of an error and of all read. -/
theorem XtG.up {g g' : Goal} {l l' w : List Nat} {k : Nat} (h : XtG g l (.err k w)) (he : ∀ k w, PR g (l ++ [41]) (.err k w) → PR g' (l' ++ [41]) (.err k w))
    (ho : ∀ t, PR g (l ++ [41]) (.ok t []) → (∃ k w, PR g' (l' ++ [41]) (.err k w)) ∨ ∃ t, PR g' (l' ++ [41]) (.ok t [])) : XtG g' l' (.err k w) := by
  obtain ⟨res, hp, hx⟩ := h
  by_cases hk : k = 40
  · subst hk
    cases res with
    | err k2 w2 => exact ⟨_, he _ _ hp, Xt.e40 _ _⟩
    | ok t r =>
      simp only [Xt, if_true] at hx
      subst hx
      rcases ho t hp with ⟨k2, w2, h2⟩ | ⟨t2, h2⟩
      · exact ⟨_, h2, Xt.e40 _ _⟩
      · exact ⟨_, h2, Xt.o40 _⟩
  · simp only [Xt, if_neg hk] at hx
    subst hx
    exact ⟨_, he _ _ hp, Xt.err hk⟩
theorem XtG.ok {g : Goal} {l r : List Nat} {t : Pt} (h : XtG g l (.ok t r)) : PR g (l ++ [41]) (.ok t (r ++ [41])) := by
  obtain ⟨res, hp, hx⟩ := h
  simp only [Xt] at hx
  subst hx
  exact hp
theorem XtG.mk {g : Goal} {l r : List Nat} {t : Pt} (h : PR g (l ++ [41]) (.ok t (r ++ [41]))) : XtG g l (.ok t r) := ⟨_, h, rfl⟩
theorem xt {g : Goal} {l : List Nat} {res : Re Pt} (h : PR g l res) : ∀ n', l.count 40 ≤ n' → g.cap (l.count 40) → XtG (g.withN n') l res := by
  have n40 : ∀ (l : List Nat), (124 :: l).count 40 = l.count 40 := fun l => by simp
  induction h with
  | @altE n l k w h ih =>
    intro n' h1 h2
    exact (ih n' h1 h2).up (fun k w h => .altE h) (fun t h => .inr ⟨_, .alt1 h (.altR0 (by simp))⟩)
  | @altE2 n l t r k w ha hb iha ihb =>
    intro n' h1 h2
    have hc := count_suf ha.suf
    have p1 := (iha n' h1 h2).ok
    refine (ihb n' (by omega) (by simp only [Goal.cap] at *; omega)).up (l' := l) (fun k w h => .altE2 p1 h) (fun t h => .inr ⟨_, .alt1 p1 h⟩)
  | @alt1 n l t r f r' ha hb iha ihb =>
    intro n' h1 h2
    have hc := count_suf ha.suf
    exact .mk (.alt1 (iha n' h1 h2).ok (ihb n' (by omega) (by simp only [Goal.cap] at *; omega)).ok)
  | altR0 h => intro n' _ _; exact .mk (.altR0 (head_ext (by decide) h))
  | @altRE n l k w h ih =>
    intro n' h1 h2
    rw [n40] at h1 h2
    exact (ih n' h1 h2).up (l' := 124 :: l) (fun k w h => .altRE h) (fun t h => .inr ⟨_, .altR1 h (.altR0 (by simp))⟩)
  | @altRE2 n l t r k w ha hb iha ihb =>
    intro n' h1 h2
    rw [n40] at h1 h2
    have hc := count_suf ha.suf
    have p1 := (iha n' h1 h2).ok
    exact (ihb n' (by omega) (by simp only [Goal.cap] at *; omega)).up (l' := 124 :: l) (fun k w h => .altRE2 p1 h) (fun t h => .inr ⟨_, .altR1 p1 h⟩)
  | @altR1 n l t r f r' ha hb iha ihb =>
    intro n' h1 h2
    rw [n40] at h1 h2
    have hc := count_suf ha.suf
    exact .mk (.altR1 (iha n' h1 h2).ok (ihb n' (by omega) (by simp only [Goal.cap] at *; omega)).ok)
  | rowE h ih => intro n' h1 h2; exact (ih n' h1 h2).up (fun k w h => .rowE h) (fun t h => .inr ⟨_, .row1 h⟩)
  | row1 h ih => intro n' h1 h2; exact .mk (.row1 (ih n' h1 h2).ok)
  | rowR0 h => intro n' _ _; exact .mk (.rowR0 (stop_ext h))
  | rowRE hs h ih => intro n' h1 h2; exact (ih n' h1 h2).up (fun k w h => .rowRE (stop_ext' hs) h) (fun t h => .inr ⟨_, .rowR1 (stop_ext' hs) h (.rowR0 rfl)⟩)
  | @rowRE2 n l t r k w hs ha hb iha ihb =>
    intro n' h1 h2
    have hc := count_suf ha.suf
    have p1 := (iha n' h1 h2).ok
    exact (ihb n' (by omega) (by simp only [Goal.cap] at *; omega)).up (l' := l) (fun k w h => .rowRE2 (stop_ext' hs) p1 h) (fun t h => .inr ⟨_, .rowR1 (stop_ext' hs) p1 h⟩)
  | @rowR1 n l t r f r' hs ha hb iha ihb =>
    intro n' h1 h2
    have hc := count_suf ha.suf
    exact .mk (.rowR1 (stop_ext' hs) (iha n' h1 h2).ok (ihb n' (by omega) (by simp only [Goal.cap] at *; omega)).ok)
  | itemE h ih => intro n' h1 h2; exact (ih n' h1 h2).up (fun k w h => .itemE h) (fun t h => .inr ⟨_, .item1 h (.itemR0 rfl)⟩)
  | @item1 n l t r res ha hb iha ihb =>
    intro n' h1 h2
    have hc := count_suf ha.suf
    have p1 := (iha n' h1 h2).ok
    obtain ⟨res', p2, hx⟩ := ihb n' (by omega) trivial
    exact ⟨res', .item1 p1 p2, hx⟩
  | itemR0 h => intro n' _ _; exact .mk (.itemR0 ((pTimes_ext _).1 h))
  | @itemRE t l k w h =>
    intro n' _ _
    obtain ⟨y, hy, hx⟩ := (pTimes_ext l).2 _ h
    cases y with
    | err k2 w2 =>
      refine ⟨_, .itemRE hy, ?_⟩
      by_cases hk : k = 40
      · subst hk; exact Xt.e40 _ _
      · simp only [Xt, if_neg hk, Re.err.injEq] at hx
        obtain ⟨rfl, rfl⟩ := hx
        exact Xt.err hk
    | ok x r =>
      by_cases hk : k = 40
      · subst hk
        simp only [Xt, if_true] at hx
        subst hx
        obtain ⟨lo, hi⟩ := x
        exact ⟨_, .itemR1 hy (.itemR0 rfl), Xt.o40 _⟩
      · simp only [Xt, if_neg hk] at hx
        cases hx
  | @itemR1 t l lo hi r res h _ ih =>
    intro n' h1 h2
    obtain ⟨y, hy, hx⟩ := (pTimes_ext l).2 _ h
    simp only [Xt] at hx
    subst hx
    have hc := count_suf (pTimes_suf h)
    obtain ⟨res', p2, hx⟩ := ih n' (by omega) trivial
    exact ⟨res', .itemR1 hy p2, hx⟩
  | atomG0 => intro n' _ h2; simp [Goal.cap] at h2
  | @atomGE n l k w h ih =>
    intro n' h1 h2
    simp only [List.count_cons_self, Goal.cap] at h1 h2
    obtain ⟨n', rfl⟩ : ∃ m, n' = m + 1 := ⟨n' - 1, by omega⟩
    exact (ih n' (by omega) (by simp only [Goal.cap]; omega)).up (l' := 40 :: l) (fun k w h => .atomGE h) (fun t h => .inl ⟨_, _, .atomGE2 h⟩)
  | @atomGE2 n l t h ih =>
    intro n' h1 h2
    simp only [List.count_cons_self, Goal.cap] at h1 h2
    obtain ⟨n', rfl⟩ : ∃ m, n' = m + 1 := ⟨n' - 1, by omega⟩
    have p1 := (ih n' (by omega) (by simp only [Goal.cap]; omega)).ok
    exact ⟨_, .atomG p1, Xt.o40 _⟩
  | @atomG n l t c r h ih =>
    intro n' h1 h2
    simp only [List.count_cons_self, Goal.cap] at h1 h2
    obtain ⟨n', rfl⟩ : ∃ m, n' = m + 1 := ⟨n' - 1, by omega⟩
    have p1 := (ih n' (by omega) (by simp only [Goal.cap]; omega)).ok
    exact .mk (.atomG p1)
  | @atomC n l k w h ih =>
    intro n' h1 h2
    have hs := ih 0
    have p0 : (clsHead l).2.count 40 ≤ l.count 40 := count_suf (clsHead_suf l)
    have hc : (91 :: l).count 40 = l.count 40 := by simp
    refine (ih n' (by omega) trivial).up (l' := 91 :: l) (fun k w h => ?_) (fun t h => ?_)
    · exact .atomC (l := l ++ [41]) (by rw [cls_ext]; exact h)
    · obtain ⟨q, _, hh⟩ := spans_shape h rfl rfl
      cases hh
  | @atomC0 n l p c r h hz ih =>
    intro n' h1 h2
    have p0 : (clsHead l).2.count 40 ≤ l.count 40 := count_suf (clsHead_suf l)
    have hc : (91 :: l).count 40 = l.count 40 := by simp
    have p1 := (ih n' (by omega) trivial).ok
    have p2 : PR (.atom n') ((91 :: l) ++ [41]) (.err 44 (c :: (r ++ [41]))) := PR.atomC0 (l := l ++ [41]) (c := c) (r := r ++ [41]) (p := p) (by rw [cls_ext]; exact p1) (by rw [cls_ext]; exact hz)
    exact ⟨_, p2, Xt.err (w := c :: r) (by decide)⟩
  | @atomC1 n l p c r h hz ih =>
    intro n' h1 h2
    have p0 : (clsHead l).2.count 40 ≤ l.count 40 := count_suf (clsHead_suf l)
    have hc : (91 :: l).count 40 = l.count 40 := by simp
    have p1 := (ih n' (by omega) trivial).ok
    have := PR.atomC1 (n := n') (l := l ++ [41]) (p := p) (c := c) (r := r ++ [41]) (by rw [cls_ext]; exact p1) (by rw [cls_ext]; exact hz)
    rw [cls_ext] at this
    exact .mk this
  | @atomL n l h40 h91 =>
    intro n' h1 h2
    by_cases hl : l = []
    · subst hl
      exact ⟨_, .atomL (by simp) (by simp), Xt.e40 41 _⟩
    · exact ⟨_, .atomL (head_ext (by decide) h40) (head_ext (by decide) h91), pLeaf_ext hl⟩
  | @spans0 p l h0 =>
    intro n' _ _
    refine .mk (.spans0 ?_)
    cases l with
    | nil => cases h0
    | cons c r => exact h0
  | @spansE first p l k w hf h =>
    intro n' _ _
    have hx := pSpan_ext l
    rw [h] at hx
    have hf' : first = false → (l ++ [41]).head? ≠ some 93 := fun hh => head_ext (by decide) (hf hh)
    cases hq : pSpan (l ++ [41]) with
    | err k2 w2 =>
      rw [hq] at hx
      refine ⟨_, .spansE hf' hq, ?_⟩
      by_cases hk : k = 40
      · subst hk; exact Xt.e40 _ _
      · simp only [Xt, if_neg hk, Re.err.injEq] at hx
        obtain ⟨rfl, rfl⟩ := hx
        exact Xt.err hk
    | ok x r =>
      rw [hq] at hx
      by_cases hk : k = 40
      · subst hk
        simp only [Xt, if_true] at hx
        subst hx
        obtain ⟨lo, hi⟩ := x
        exact ⟨_, .spans1 hf' hq (.spansE (k := 40) (w := []) (by simp) rfl), Xt.e40 _ _⟩
      · simp only [Xt, if_neg hk] at hx
        cases hx
  | @spans1 first p l lo hi r res hf h hp ih =>
    intro n' h1 _
    have hx := pSpan_ext l
    rw [h] at hx
    simp only [Xt] at hx
    have hsf := pSpan_suf l
    rw [h] at hsf
    have hc := count_suf hsf
    have hf' : first = false → (l ++ [41]).head? ≠ some 93 := fun hh => head_ext (by decide) (hf hh)
    obtain ⟨res', p2, hx2⟩ := ih n' (by omega) trivial
    exact ⟨res', .spans1 hf' hx p2, hx2⟩
theorem flat_len_L : ∀ (t : Pt) (b : Bool), t.wf b → ∀ n, ∀ x ∈ t.flat n, x.L.length ≤ t.sz := by
  have wsz : ∀ {t : Pt}, t.wf true → 1 ≤ t.sz := fun {t} h => by
    cases t with
    | nil => exact h.elim
    | cons => exact h.elim
    | _ => simp [Pt.sz]
  have lsz : ∀ (f : Pt), f.wf false → f.len ≤ f.sz := by
    intro f
    induction f with
    | cons t g _ ih =>
      intro h
      have h1 := wsz h.1
      have h2 := ih h.2
      simp only [Pt.len, Pt.sz]; omega
    | nil => intro _; simp [Pt.len]
    | _ => intro h; exact h.elim
  intro t
  induction t with
  | empty => intro b h n x hx; simp [Pt.flat] at hx; subst hx; exact Nat.zero_le _
  | set s => intro b h n x hx; simp [Pt.flat] at hx; subst hx; exact Nat.zero_le _
  | ref nm => intro b h n x hx; simp [Pt.flat] at hx; subst hx; exact Nat.zero_le _
  | rep t lo hi ih =>
    intro b h n x hx
    cases b with
    | false => exact h.elim
    | true =>
      simp only [Pt.flat, Pt.sz, List.mem_append, List.mem_singleton] at hx ⊢
      rcases hx with hx | rfl
      · have := ih true h.1 n x hx; omega
      · simp
  | cat f ih =>
    intro b h n x hx
    cases b with
    | false => exact h.elim
    | true =>
      have := lsz f h.2
      simp only [Pt.flat, Pt.sz, List.mem_append, List.mem_singleton] at hx ⊢
      rcases hx with hx | rfl
      · have := ih false h.2 n x hx; omega
      · rw [Pt.roots_len]; omega
  | alt f ih =>
    intro b h n x hx
    cases b with
    | false => exact h.elim
    | true =>
      have := lsz f h.2
      simp only [Pt.flat, Pt.sz, List.mem_append, List.mem_singleton] at hx ⊢
      rcases hx with hx | rfl
      · have := ih false h.2 n x hx; omega
      · rw [Pt.roots_len]; omega
  | nil => intro b h n x hx; simp [Pt.flat] at hx
  | cons t f iht ihf =>
    intro b h n x hx
    cases b with
    | true => exact h.elim
    | false =>
      simp only [Pt.flat, Pt.sz, List.mem_append] at hx ⊢
      rcases hx with hx | hx
      · have := iht true h.1 n x hx; omega
      · have := ihf false h.2 _ x hx; omega
def RestOk : Goal → List Nat → Re Pt → Prop
  | .alt _, _, .ok _ r => stopN r = true ∧ r.head? ≠ some 124
  | .altR _, l, .ok _ r => r.head? ≠ some 124 ∧ (stopN l = true → stopN r = true)
  | .row _, _, .ok _ r => stopN r = true
  | .rowR _, _, .ok _ r => stopN r = true
  | _, _, _ => True
theorem rest_ok {g : Goal} {l : List Nat} {res : Re Pt} (h : PR g l res) : RestOk g l res := by
  induction h with
  | alt1 _ _ h1 h2 => exact ⟨h2.2 h1, h2.1⟩
  | altR0 h => exact ⟨h, fun h => h⟩
  | altR1 _ _ h1 h2 => exact ⟨h2.1, fun _ => h2.2 h1⟩
  | row1 _ h => exact h
  | rowR0 h => exact h
  | rowR1 _ _ _ _ h => exact h
  | item1 => trivial
  | itemR1 => trivial
  | spans1 => trivial
  | itemR0 => trivial
  | atomG => trivial
  | atomC1 => trivial
  | atomL => trivial
  | spans0 => trivial
  | _ => trivial
theorem alt_rest {n : Nat} {l r : List Nat} {t : Pt} {c : Nat} (h : PR (.alt n) l (.ok t (c :: r))) : c = 41 := by
  obtain ⟨h1, h2⟩ := rest_ok h
  simp only [stopN, Bool.or_eq_true, beq_iff_eq] at h1
  rcases h1 with rfl | rfl
  · exact absurd rfl h2
  · rfl
/-- What is in parentheses. -/
theorem group_ok {l : List Nat} {t : Pt} (h : PR (.alt 63) l (.ok t [41])) : PR (.alt 64) (40 :: l) (.ok t []) := by
  have h1 : PR (.item 64) (40 :: l) (.ok t []) := .item1 (.atomG h) (.itemR0 rfl)
  exact .alt1 (.row1 (.rowR1 rfl h1 (.rowR0 rfl))) (.altR0 (by simp))
theorem group_err {l w : List Nat} {k : Nat} (h : PR (.alt 63) l (.err k w)) : PR (.alt 64) (40 :: l) (.err k w) :=
  .altE (.rowE (.rowRE rfl (.itemE (.atomGE h))))
theorem group_end {l : List Nat} {t : Pt} (h : PR (.alt 63) l (.ok t [])) : PR (.alt 64) (40 :: l) (.err 40 []) :=
  .altE (.rowE (.rowRE rfl (.itemE (.atomGE2 h))))
theorem Group_end (K : Nat) (hK : 6000 ≤ K) (k : Nat) (x : ByteArray) (hx : x.size ≤ 500) (m : Int) (hc : (bs x).count 40 < 64) : raddlelaw04_SyntaxGroup_l0 K (k + 1) true x ((bs x).count 40 : Int) m m = some true := by
  have hlen := bs_len x
  have hb : bs (((⟨#[40]⟩ : ByteArray) ++ x) ++ (⟨#[41]⟩ : ByteArray)) = 40 :: (bs x ++ [41]) := by rw [bs_append, bs_append]; rfl
  have hsz : (((⟨#[40]⟩ : ByteArray) ++ x) ++ (⟨#[41]⟩ : ByteArray)).size = x.size + 2 := by
    rw [← bs_len, hb]; simp [hlen]
  have hsz1 : ((⟨#[40]⟩ : ByteArray) ++ x).size = 1 + x.size := by rw [ByteArray.size_append]; rfl
  rw [raddlelaw04_SyntaxGroup_l0]
  dsimp only
  rw [show decide (m < m) = false from decide_eq_false (by omega), cond_false, show decide ((((bs x).count 40 : Nat) : Int) ≥ 64) = false from decide_eq_false (by omega), cond_false]
  obtain ⟨res, hp⟩ := total 64 (bs x)
  obtain ⟨res', hp', hxt⟩ := xt hp 63 (by omega) (by simp only [Goal.cap]; omega)
  simp only [Goal.withN] at hp'
  have hsf := hp.suf
  have hsh := short hp
  rw [Parse_ok K hK (by omega) hp, Option.bind_some, ck_pos (by show 1 + _ ≤ _; omega), ck_pos (by rw [hsz1]; show _ + 1 ≤ _; omega)]
  cases res with
  | ok t r =>
    simp only [Short] at hsh
    cases r with
    | nil =>
      simp only [Xt, List.nil_append] at hxt
      subst hxt
      have hwf : t.wf true := hp.wf fun c hc => bs_lt hc
      have hp2 : PR (.alt 64) (bs (((⟨#[40]⟩ : ByteArray) ++ x) ++ (⟨#[41]⟩ : ByteArray))) (.ok t []) := by rw [hb]; exact group_ok hp'
      simp only [List.length_nil] at hsh
      rw [Parse_ok K hK (by omega) hp2, Option.bind_some, out_ok _ (by omega), out_ok _ (by omega)]
      simp only [beq_self_eq_true, cond_true]
      rw [Same_ok K _ _ (by rw [Pt.flat_len]; omega) (fun n hn => by
        have := flat_len_L t true hwf 0 n hn
        omega), Option.bind_some, decide_eq_true rfl, raddlelaw04_SyntaxGroup_j1]
    | cons c r =>
      have hc41 := alt_rest hp
      subst hc41
      obtain ⟨res2, hp2⟩ := total 64 (bs (((⟨#[40]⟩ : ByteArray) ++ x) ++ (⟨#[41]⟩ : ByteArray)))
      rw [Parse_ok K hK (by omega) hp2, Option.bind_some, out_more]
      have hat : At x 0 (bs x) := ⟨by omega, by simp, by omega⟩
      have hat2 := hat.suffix hsf
      have hbt := hat2.byte
      have hlt := hat2.lt
      generalize parseOut _ res2 = q
      simp only [show ((41 : Int) == 0) = false from rfl, show ((41 : Int) == 40) = false from rfl, beq_self_eq_true, cond_false, cond_true]
      have hchk : (bif decide ((((x.size - (41 :: r).length : Nat) : Int)) ≥ 0) then bif decide ((((x.size - (41 :: r).length : Nat) : Int)) < (x.size : Int)) then (ck (0 ≤ (((x.size - (41 :: r).length : Nat) : Int)) ∧ (((x.size - (41 :: r).length : Nat) : Int)) < x.size)).bind fun _ => raddlelaw04_SyntaxGroup_j3 K ((bt x (((x.size - (41 :: r).length : Nat) : Int))) == (41 : Int)) else raddlelaw04_SyntaxGroup_j3 K false else raddlelaw04_SyntaxGroup_j3 K false) = some true := by
        rw [show decide ((((x.size - (41 :: r).length : Nat) : Int)) ≥ 0) = true from decide_eq_true (by omega), cond_true, show decide ((((x.size - (41 :: r).length : Nat) : Int)) < (x.size : Int)) = true from decide_eq_true (by omega), cond_true, ck_pos ⟨by omega, by omega⟩, hbt]
        rfl
      cases (q.2.2 != (0 : Int)) with
      | false => simp only [cond_false]; exact hchk
      | true =>
        simp only [cond_true]
        cases (q.2.1 == IntKind.i64.wrap ((((x.size - (41 :: r).length : Nat) : Int)) + 1)) with
        | true => rfl
        | false => simp only [cond_false]; exact hchk
  | err kk w =>
    have hkk := hsf.2.1
    have hwl := suf_len hsf.1
    rw [out_err]
    simp only
    have e0 : ((kk : Int) == 0) = false := by simp; omega
    simp only [e0, cond_false]
    by_cases h40 : kk = 40
    · subst h40
      simp only [show (((40 : Nat) : Int) == 40) = true from rfl, cond_true]
      have hbad : ∃ k2 w2, PR (.alt 64) (bs (((⟨#[40]⟩ : ByteArray) ++ x) ++ (⟨#[41]⟩ : ByteArray))) (.err k2 w2) := by
        rw [hb]
        cases res' with
        | err k2 w2 => exact ⟨_, _, group_err hp'⟩
        | ok t r =>
          simp only [Xt, if_true] at hxt
          subst hxt
          exact ⟨_, _, group_end hp'⟩
      obtain ⟨k2, w2, hp2⟩ := hbad
      have hk2 := hp2.suf.2.1
      rw [Parse_ok K hK (by omega) hp2, Option.bind_some, out_err]
      simp only [raddlelaw04_SyntaxGroup_j2]
      rw [show ((k2 : Int) != 0) = true by simp; omega]
    · simp only [Xt, if_neg h40] at hxt
      subst hxt
      have hp2 : PR (.alt 64) (bs (((⟨#[40]⟩ : ByteArray) ++ x) ++ (⟨#[41]⟩ : ByteArray))) (.err kk (w ++ [41])) := by rw [hb]; exact group_err hp'
      have e1 : ((kk : Int) == 40) = false := by simp; omega
      have e2 : IntKind.i64.wrap (((x.size - w.length : Nat) : Int) + 1) = ((x.size + 2 - (w ++ [41]).length : Nat) : Int) := by
        rw [w64 (by omega) (by omega), List.length_append, List.length_singleton]; omega
      have e3 : ((kk : Int) != 0) = true := by simp; omega
      rw [Parse_ok K hK (by omega) hp2, Option.bind_some, out_err, hsz, e1, cond_false]
      simp only [e2, e3, beq_self_eq_true, cond_true, raddlelaw04_SyntaxGroup_j3]
      cases ((kk : Int) == 41) <;> rfl
theorem Group_loop (K : Nat) (hK : 6000 ≤ K) (x : ByteArray) (hx : x.size ≤ 500) : ∀ (m k i : Nat), x.size - i = m → i ≤ x.size → m < k → raddlelaw04_SyntaxGroup_l0 K k true x ((((bs x).take i).count 40 : Nat) : Int) (x.size : Int) (i : Int) = some true := by
  have hlen := bs_len x
  intro m
  induction m with
  | zero =>
    intro k i hm hi hk
    obtain ⟨k, rfl⟩ : ∃ k', k = k' + 1 := ⟨k - 1, by omega⟩
    have hix : i = x.size := by omega
    subst hix
    rw [List.take_of_length_le (by omega)]
    by_cases hc : (bs x).count 40 < 64
    · exact Group_end K hK k x hx _ hc
    · rw [raddlelaw04_SyntaxGroup_l0]
      dsimp only
      rw [show decide ((x.size : Int) < (x.size : Int)) = false from decide_eq_false (by omega), cond_false, show decide ((((bs x).count 40 : Nat) : Int) ≥ 64) = true from decide_eq_true (by omega), cond_true]
  | succ m ih =>
    intro k i hm hi hk
    obtain ⟨k, rfl⟩ : ∃ k', k = k' + 1 := ⟨k - 1, by omega⟩
    have hlt : i < (bs x).length := by omega
    have hbt : bt x (i : Int) = ((bs x)[i] : Int) := by rw [bt_bs, List.getElem?_eq_getElem hlt]; rfl
    have hnext := ih k (i + 1) (by omega) (by omega) (by omega)
    have hcl : ((bs x).take i).count 40 ≤ i := Nat.le_trans (List.count_le_length ..) (by rw [List.length_take]; omega)
    rw [List.take_add_one, List.getElem?_eq_getElem hlt, List.count_append] at hnext
    rw [raddlelaw04_SyntaxGroup_l0]
    dsimp only
    rw [show decide ((i : Int) < (x.size : Int)) = true from decide_eq_true (by omega), cond_true, ck_pos ⟨by omega, by omega⟩, hbt, w64s (n := i) (by omega)]
    by_cases h40 : (bs x)[i] = 40
    · rw [show (((bs x)[i] : Int) == 40) = true by simp; omega, cond_true, w64s (n := ((bs x).take i).count 40) (by omega)]
      simpa [h40] using hnext
    · rw [show (((bs x)[i] : Int) == 40) = false by simp; omega, cond_false]
      simpa [h40] using hnext
theorem Group_plain (s : ByteArray) : ∃ K, raddlelaw04_SyntaxGroup K s = some true := by
  refine ⟨6000, ?_⟩
  have e := minIf 500 s.size
  rw [show ((500 : Nat) : Int) = (500 : Int) from rfl] at e
  rw [raddlelaw04_SyntaxGroup, shown_at (by decide), Option.bind_some, e, Int.toNat_natCast, ck_pos ⟨by omega, by omega, by omega⟩]
  have hsz : (s.extract 0 (min 500 s.size)).size ≤ 500 := by rw [← bs_len, bs_extract]; simp; omega
  exact Group_loop 6000 (by decide) (s.extract 0 (min 500 s.size)) hsz _ 6000 0 rfl (by omega) (by omega)
end Go.Rv

/- TrimLive, plainly. -/
import Derived.Test.YtcmfaclkgdmpbaaGreatDoorRpUN
namespace Go.Rv
def goesL (l : List Bool) (m : Qd) : Bool := decide (0 ≤ m.To) && l.getD m.To.toNat false
theorem live_unfold {S : List Qa} {l : List Bool} (h : Qd8 S l) {i : Nat} (hi : i < S.length) : l.getD i false = (Qc3 (stA S i) || (mvs S i).any (goesL l)) := by
 rw [Bool.eq_iff_iff, Bool.or_eq_true, List.any_eq_true, h.iff]
 constructor
 ·intro hl
  cases hl with
  | rule a b => exact .inl b
  | step m a b c d => exact .inr ⟨m, b, by rw [goesL, decide_eq_true c, (h.iff _).2 d]; rfl⟩
 ·rintro (hr | ⟨m, hm, hg⟩)
  ·exact .rule hi hr
  ·rw [goesL, Bool.and_eq_true, decide_eq_true_eq] at hg
   exact .step m hi hm hg.1 ((h.iff _).1 hg.2)
theorem law_l4 (K : Nat) (go : Bool → (List Bool) → Int → Int → Bool → (List Qa) → Int → Int → (List (List Qd)) → Int → Int → Zg → Int → (List Vg) → (List Qa) → (List Int) → (List Int) → (List Int) → (List (List Qd)) → Option Bool) (x3 : Bool) (l : List Bool) (x6 x7 : Int) (x37 : List Qa) (x38 x39 : Int) (x45 : List (List Qd)) (x46 x47 : Int) (row : List Qd) (f : Zg) (mn : Int) (cs : List Vg) (S : List Qa) (L R U : List Int) (V : List (List Qd)) (hr : row.length ≤ 256) (hm : ∀ m ∈ row, m.To < l.length) : ∀ (q k j : Nat) (b : Bool), row.length - j = q → q < k →
  Yj K go k x3 l x6 x7 b x37 x38 x39 x45 x46 x47 row (row.length : Int) (j : Int) f mn cs S L R U V = go x3 l x6 x7 (b || (row.drop j).any (goesL l)) x37 x38 x39 x45 x46 (IntKind.i64.wrap (x47 + 1)) f mn cs S L R U V := by
 intro q
 induction q with
 | zero =>
  intro k j b hq hk
  obtain ⟨k, rfl⟩ : ∃ q, k = q + 1 := ⟨k - 1, by omega⟩
  rw [Yj]
  dsimp only
  rw [decide_eq_false (by omega), cF, List.drop_eq_nil_of_le (by omega), List.any_nil, Bool.or_false]
 | succ q ih =>
  intro k j b hq hk
  obtain ⟨k, rfl⟩ : ∃ q, k = q + 1 := ⟨k - 1, by omega⟩
  have hj : j < row.length := by omega
  have ht := hm _ (List.getElem_mem hj)
  have hlt : (j : Int) < (row.length : Int) := by omega
  rw [Yj]
  dsimp only
  rw [decide_eq_true hlt, cT, Zh hj, bS, Pn (n := j) (by omega), List.drop_eq_getElem_cons hj, List.any_cons]
  generalize row[j] = m at *
  cases b with
  | true =>
   rw [cT, ih k (j + 1) true (by omega) (by omega)]
   rfl
  | false =>
   rw [cF, Bool.false_or]
   by_cases h0 : m.To ≥ 0
   ·have hg : Xm l m.To = some (l.getD m.To.toNat false) := by
     have := Zh (l := l) (i := m.To.toNat) (by omega)
     rw [Int.toNat_of_nonneg h0] at this
     rw [this, Zf (by omega)]
    rw [decide_eq_true h0, cT, hg, bS, ih k (j + 1) _ (by omega) (by omega), goesL, decide_eq_true h0, Bool.true_and]
   ·rw [decide_eq_false h0, cF, ih k (j + 1) _ (by omega) (by omega), goesL, decide_eq_false h0, Bool.false_and]
def restL (l : List Bool) (s : Qa) (j : Nat) : Bool := (s.Rule.drop j).any (fun r => decide (r ≥ 0)) || (s.Next.drop j).flatten.any (goesL l)
theorem law_l2 (K : Nat) (hK : 1000 ≤ K) (go : Bool → (List Bool) → Int → (List Qa) → Int → Int → Zg → Int → (List Vg) → (List Qa) → Option Bool) (x3 : Bool) (l : List Bool) (x6 : Int) (i : Nat) (x37 : List Qa) (x38 x39 : Int) (f : Zg) (mn : Int) (cs : List Vg) (S : List Qa) (s : Qa) (hs : Sp s) (hrl : s.Rule.length = s.Next.length) (hi : i < l.length) (hm : ∀ r ∈ s.Next, ∀ m ∈ r, m.To < l.length) : ∀ (q k j : Nat) (b : Bool), s.Next.length - j = q → q < k → j ≤ s.Next.length → (b || restL l s j) = l[i] →
  Zx K go k x3 l x6 (i : Int) b x37 x38 x39 s.Next (s.Next.length : Int) (j : Int) f mn cs S s.L s.R s.Rule s.Next = go x3 l (bif l[i] && decide (0 < i) then IntKind.i64.wrap (x6 + 1) else x6) x37 x38 (IntKind.i64.wrap (x39 + 1)) f mn cs S := by
 have hn := hs.next
 intro q
 induction q with
 | zero =>
  intro k j b hq hk hj he
  obtain ⟨k, rfl⟩ : ∃ q, k = q + 1 := ⟨k - 1, by omega⟩
  have hb : b = l[i] := by
   rw [restL, List.drop_eq_nil_of_le (by omega), List.drop_eq_nil_of_le (by omega), List.flatten_nil, List.any_nil, List.any_nil, Bool.or_false, Bool.or_false] at he
   exact he
  rw [Zx]
  dsimp only
  rw [decide_eq_false (by omega), cF, Zh hi, bS, hb, beq_self_eq_true, Bool.not_true, cF]
  cases l[i] with
  | false => rfl
  | true =>
   rw [cT, Bool.true_and]
   by_cases h0 : 0 < i
   ·rw [decide_eq_true (by omega), cT, decide_eq_true h0, cT]
   ·rw [decide_eq_false (by omega), cF, decide_eq_false h0, cF]
 | succ q ih =>
  intro k j b hq hk hj he
  obtain ⟨k, rfl⟩ : ∃ q, k = q + 1 := ⟨k - 1, by omega⟩
  have hjl : j < s.Next.length := by omega
  have hjr : j < s.Rule.length := by omega
  have hlt : (j : Int) < (s.Next.length : Int) := by omega
  have hrow := List.getElem_mem hjl
  have hl4 := fun b => law_l4 K (Zx K go k) x3 l x6 (i : Int) x37 x38 x39 s.Next (s.Next.length : Int) (j : Int) s.Next[j] f mn cs S s.L s.R s.Rule s.Next (hs.row _ hrow) (hm _ hrow) s.Next[j].length K 0 b rfl (by have := hs.row _ hrow; omega)
  rw [Int.natCast_zero, List.drop_zero, Pn (n := j) (by omega)] at hl4
  rw [restL, List.drop_eq_getElem_cons hjl, List.drop_eq_getElem_cons hjr, List.any_cons, List.flatten_cons, List.any_append] at he
  rw [Zx]
  dsimp only
  rw [decide_eq_true hlt, cT, Zh hjl, bS, Zh hjr]
  cases b with
  | true =>
   rw [cT, X1, hl4]
   refine ih k (j + 1) _ (by omega) (by omega) (by omega) ?_
   rw [← he]; rfl
  | false =>
   rw [cF, bS, X1, hl4]
   refine ih k (j + 1) _ (by omega) (by omega) (by omega) ?_
   rw [← he, restL]
   cases decide (s.Rule[j] ≥ 0) <;> cases s.Next[j].any (goesL l) <;> cases (s.Rule.drop (j + 1)).any (fun r => decide (r ≥ 0)) <;> cases (s.Next.drop (j + 1)).flatten.any (goesL l) <;> rfl
def cntL (l : List Bool) (i : Nat) : Nat := 1 + ((List.range i).filter fun i => decide (0 < i) && l.getD i false).length
theorem cntL_le (l : List Bool) (i : Nat) : cntL l i ≤ 1 + i := by
 have := List.length_filter_le (fun i => decide (0 < i) && l.getD i false) (List.range i)
 rw [List.length_range] at this
 rw [cntL]; omega
theorem cntL_succ (l : List Bool) (i : Nat) (hi : i < l.length) : (bif l[i] && decide (0 < i) then ((cntL l i : Nat) : Int) + 1 else ((cntL l i : Nat) : Int)) = ((cntL l (i + 1) : Nat) : Int) := by
 have e : ([i].filter fun i => decide (0 < i) && l.getD i false) = if (decide (0 < i) && l.getD i false) = true then [i] else [] := by
  rw [List.filter_cons]; rfl
 rw [cntL, cntL, List.range_succ, List.filter_append, List.length_append, ← Zf (d := false) hi, Bool.and_comm, e]
 cases (decide (0 < i) && l.getD i false) with
 | true => rw [if_pos rfl, cT, List.length_singleton]; omega
 | false => rw [if_neg (by decide), cF, List.length_nil]; omega
theorem law_l1 (K : Nat) {x : Qn} (hx : T7 x) {l : List Bool} (hl : Qd8 x.States l) (hK : 10000000 ≤ K) : ∀ (q k i : Nat), x.States.length - i = q → q < k → i ≤ x.States.length →
  Yk K k true l ((cntL l i : Nat) : Int) x.States (x.States.length : Int) (i : Int) x.Split.Of x.Split.Many x.Counts x.States = some true := by
 have hn := hx.1.n2
 intro q
 induction q with
 | zero =>
  intro k i hq hk hi
  obtain ⟨k, rfl⟩ : ∃ q, k = q + 1 := ⟨k - 1, by omega⟩
  obtain ⟨l', h1, h2⟩ := of_ok hx hK
  have e : l' = l := h1.uniq hl
  subst e
  have hlen := trim_len (l := l') (b := x.Counts.length == 0) hx.1.toOk (by have := hx.1.n1; omega) fun i hi m hm h0 => hx.1.to1 hi hm h0
  have ei : i = x.States.length := by omega
  rw [Yk]
  dsimp only
  have e2 : (⟨⟨x.Split.Of, x.Split.Many⟩, x.Counts, x.States⟩ : Qn) = x := rfl
  rw [decide_eq_false (by omega), cF, e2, h2, bS, cT]
  have hle : (((trimA x l', (0 : Int)).1.States.length : Nat) : Int) ≤ ((cntL l' i : Nat) : Int) := by
   show (((trimL x.States l' (x.Counts.length == 0)).length : Nat) : Int) ≤ _
   rw [ei, cntL]; omega
  rw [decide_eq_true hle]
  dsimp only [trimA, withS]
  simp only [beq_self_eq_true, cT]
 | succ q ih =>
  intro k i hq hk hi
  obtain ⟨k, rfl⟩ : ∃ q, k = q + 1 := ⟨k - 1, by omega⟩
  have hil : i < x.States.length := by omega
  have hlt : (i : Int) < (x.States.length : Int) := by omega
  have hmem := List.getElem_mem hil
  have hs := hx.1.small hmem
  have hq' := hx.1.st _ hmem
  have hll := hl.len
  have h2 := law_l2 K (by omega) (Yk K k) true l ((cntL l i : Nat) : Int) i x.States (x.States.length : Int) (i : Int) x.Split.Of x.Split.Many x.Counts x.States x.States[i] hs (by have := hq'.rl; have := hq'.nl; omega) (by omega) (fun r hr m hm => by
   have := hx.1.toOk i hil m (by rw [mvs, Mz hil]; exact List.mem_flatten.2 ⟨r, hr, hm⟩)
   omega) x.States[i].Next.length K 0 false rfl (by have := hs.next; omega) (Nat.zero_le _) (by
   have := live_unfold hl hil
   rw [Zf (by omega)] at this
   rw [this, Bool.false_or, restL, List.drop_zero, List.drop_zero, mvs, Mz hil]
   rfl)
  rw [Int.natCast_zero, Pn (n := i) (by omega), w64 (n := ((cntL l i : Nat) : Int) + 1) (by omega) (by have := cntL_le l i; omega), cntL_succ l i (by omega)] at h2
  rw [Yk]
  dsimp only
  rw [decide_eq_true hlt, cT, Zh hil, bS, h2]
  exact ih k (i + 1) (by omega) (by omega) (by omega)
theorem Live_plain (a : Qn) (ha : Okay a) : ∃ K, Vc K a = some true := by
 refine ⟨needK (fewS a), ?_⟩
 obtain ⟨hB, hK⟩ := big_need (fewS a) (Nat.le_refl _)
 have hg := good_or (few_okay ha) hB
 generalize needK (fewS a) = K at *
 rw [Vc, shown_at (by omega), bS, few_eq, bS]
 generalize fewS a = x at *
 rcases hg with ⟨hx, h1, h2⟩ | ⟨_, h1, h2⟩
 ·obtain ⟨l, e, hl⟩ := live_ok hx hK
  have hn := hx.1.n2
  rw [e, bS, h2, bS, Bool.not_true, cF, hl.len, bne_self_eq_false, cF]
  exact law_l1 K hx hl hK x.States.length K 0 rfl (by omega) (Nat.zero_le _)
 ·rw [live_bad h1, bS, h2, bS]
  rfl
end Go.Rv

/- Patterns, plainly: what has a node just what its kind has; a tree's nodes are Right. -/
/- Patterns, plainly: nodes that are Right are a tree's. -/
/- SyntaxRights, plainly: whether nodes are a tree is the document's. -/
import Derived.Test.YtocjhbbldeankaaDoorRpSO
namespace Go.Rv
theorem beqB (a b : ByteArray) : (a.toList == b.toList) = decide (a = b) := by
 rw [Bool.eq_iff_iff, beq_iff_eq, decide_eq_true_eq, ByteArray.toList_eq, ByteArray.toList_eq]
 exact ⟨fun h => ByteArray.ext (Array.toList_inj.1 h), fun h => by rw [h]⟩
def Shape (n : aNd) : Prop :=
 (n.Op = 2 ∧ n.S ≠ z4 ∧ n.L = [] ∧ n.Lo = 0 ∧ n.Hi = 0 ∧ n.Name = noB) ∨
 (n.Op = 5 ∧ n.S = z4 ∧ n.L.length = 1 ∧ n.Name = noB ∧ 0 ≤ n.Lo ∧ n.Lo ≤ 4096 ∧ (n.Hi = -1 ∨ (1 ≤ n.Hi ∧ n.Lo ≤ n.Hi ∧ n.Hi ≤ 4096))) ∨
 ((n.Op = 3 ∨ n.Op = 4) ∧ n.S = z4 ∧ 2 ≤ n.L.length ∧ n.Lo = 0 ∧ n.Hi = 0 ∧ n.Name = noB) ∨
 (n.Op = 6 ∧ n.S = z4 ∧ n.L = [] ∧ n.Lo = 0 ∧ n.Hi = 0 ∧ nameOk (bs n.Name) = true) ∨
 (n.Op = 1 ∧ n.S = z4 ∧ n.L = [] ∧ n.Lo = 0 ∧ n.Hi = 0 ∧ n.Name = noB)
instance (n : aNd) : Decidable (Shape n) := by unfold Shape; infer_instance
theorem beqI (a b : Int) : (a == b) = decide (a = b) := by rw [Bool.eq_iff_iff, beq_iff_eq, decide_eq_true_eq]
theorem j0_shape (K : Nat) (x4 : Int) (n : aNd) (y : Arr4) (lo hi : Int) (nm : ByteArray) : sy_shaped_j0 K x4 n y lo hi nm = some (decide (x4 = 0 ∧ n.S = y ∧ n.Lo = lo ∧ n.Hi = hi ∧ n.Name = nm)) := by
 rw [sy_shaped_j0]
 have e1 : Arr4.same n.S y = decide (n.S = y) := by rw [Bool.eq_iff_iff, same_iff, decide_eq_true_eq]
 rw [beqI, e1, beqI, beqI, beqB]
 by_cases h1 : x4 = 0
 ·by_cases h2 : n.S = y
  ·by_cases h3 : n.Lo = lo
   ·by_cases h4 : n.Hi = hi
    ·simp [h1, h2, h3, h4]
    ·simp [h1, h2, h3, h4]
   ·simp [h1, h2, h3]
  ·simp [h1, h2]
 ·simp [h1]
theorem shaped_ok (K : Nat) (n : aNd) (hn : n.Name.size < K ∧ n.Name.size ≤ 9223372036854775807) (hl : n.L.length ≤ 9223372036854775807) : sy_shaped K n = some (decide (Shape n)) := by
 have hdec : ∀ {p : Prop} [Decidable p], (p ↔ Shape n) → some (decide p) = some (decide (Shape n)) := fun h => by simp only [h]
 have hfalse : ¬ Shape n → some false = some (decide (Shape n)) := fun h => by rw [decide_eq_false h]
 have hsame : Arr4.same n.S ⟨0, 0, 0, 0⟩ = decide (n.S = z4) := z4_same n.S
 rw [sy_shaped]
 by_cases h2 : n.Op = 2
 ·simp only [h2, beq_self_eq_true, cT, hsame]
  by_cases hz : n.S = z4
  ·rw [decide_eq_true hz, cT]
   exact hfalse (by simp [Shape, h2, hz])
  ·rw [decide_eq_false hz, cF, j0_shape]
   refine hdec ?_
   simp only [Shape, h2]
   constructor
   ·rintro ⟨a, _, b, c, d⟩
    exact .inl ⟨by simp, hz, List.eq_nil_of_length_eq_zero (by omega), b, c, d⟩
   ·intro h
    rcases h with h | h | h | h | h
    ·exact ⟨by rw [h.2.2.1]; rfl, by simp, h.2.2.2.1, h.2.2.2.2.1, h.2.2.2.2.2⟩
    ·omega
    ·omega
    ·omega
    ·omega
 have b2 : (n.Op == 2) = false := by simpa using h2
 rw [b2, cF]
 by_cases h5 : n.Op = 5
 ·have b5 : (n.Op == 5) = true := by simpa using h5
  rw [b5, cT]
  have key : ∀ (hb : 0 ≤ n.Lo ∧ n.Lo ≤ 4096 ∧ (n.Hi = -1 ∨ (1 ≤ n.Hi ∧ n.Lo ≤ n.Hi ∧ n.Hi ≤ 4096))), sy_shaped_j2 K (n.L.length : Int) n ⟨0, 0, 0, 0⟩ = some (decide (Shape n)) := by
   intro hb
   rw [sy_shaped_j2, j0_shape]
   refine hdec ?_
   rw [w64 (by omega) (by omega)]
   simp only [Shape, h5]
   constructor
   ·rintro ⟨a, b, _, _, d⟩
    exact .inr (.inl ⟨trivial, b, by omega, d, hb⟩)
   ·intro h
    rcases h with h | h | h | h | h
    ·omega
    ·exact ⟨by omega, h.2.1, trivial, trivial, h.2.2.2.1⟩
    ·omega
    ·omega
    ·omega
  have kno : ¬ (0 ≤ n.Lo ∧ n.Lo ≤ 4096 ∧ (n.Hi = -1 ∨ (1 ≤ n.Hi ∧ n.Lo ≤ n.Hi ∧ n.Hi ≤ 4096))) → some false = some (decide (Shape n)) := fun hb => hfalse (by
   intro h
   rcases h with h | h | h | h | h
   ·omega
   ·exact hb h.2.2.2.2
   ·omega
   ·omega
   ·omega)
  by_cases c1 : n.Lo < 0
  ·rw [decide_eq_true c1, cT, sy_shaped_j1]; exact kno (by omega)
  rw [decide_eq_false c1, cF]
  by_cases c2 : n.Lo > 4096
  ·rw [decide_eq_true c2, cT, sy_shaped_j1]; exact kno (by omega)
  rw [decide_eq_false c2, cF]
  by_cases c3 : n.Hi = -1
  ·have : (n.Hi != -1) = false := by simpa using c3
   rw [this, cF]; exact key (by omega)
  have b3 : (n.Hi != -1) = true := by simpa using c3
  rw [b3, cT]
  by_cases c4 : n.Hi < (if (1 : Int) > n.Lo then (1 : Int) else n.Lo)
  ·rw [decide_eq_true c4, cT, sy_shaped_j1]; exact kno (by split at c4 <;> omega)
  rw [decide_eq_false c4, cF]
  by_cases c5 : n.Hi > 4096
  ·rw [decide_eq_true c5, cT, sy_shaped_j1]; exact kno (by omega)
  rw [decide_eq_false c5, cF]
  exact key (by split at c4 <;> omega)
 have b5 : (n.Op == 5) = false := by simpa using h5
 rw [b5, cF]
 have hrow : n.Op = 3 ∨ n.Op = 4 → sy_shaped_j3 K (n.L.length : Int) n true ⟨0, 0, 0, 0⟩ = some (decide (Shape n)) := by
  intro h34
  rw [sy_shaped_j3, cT]
  by_cases c1 : (n.L.length : Int) < 2
  ·rw [decide_eq_true c1, cT]
   exact hfalse (by
    intro h
    rcases h with h | h | h | h | h <;> omega)
  rw [decide_eq_false c1, cF, j0_shape]
  refine hdec ?_
  constructor
  ·rintro ⟨_, b, c, d, e⟩
   exact .inr (.inr (.inl ⟨h34, b, by omega, c, d, e⟩))
  ·intro h
   rcases h with h | h | h | h | h
   ·omega
   ·omega
   ·exact ⟨rfl, h.2.1, h.2.2.2.1, h.2.2.2.2.1, h.2.2.2.2.2⟩
   ·omega
   ·omega
 by_cases h3 : n.Op = 3
 ·have b3 : (n.Op == 3) = true := by simpa using h3
  rw [b3, cT]; exact hrow (.inl h3)
 have b3 : (n.Op == 3) = false := by simpa using h3
 rw [b3, cF]
 by_cases h4 : n.Op = 4
 ·have b4 : (n.Op == 4) = true := by simpa using h4
  rw [b4]; exact hrow (.inr h4)
 have b4 : (n.Op == 4) = false := by simpa using h4
 rw [b4, sy_shaped_j3, cF]
 by_cases h6 : n.Op = 6
 ·have b6 : (n.Op == 6) = true := by simpa using h6
  rw [b6, cT, Name_ok K _ hn.1 hn.2, bS]
  cases hq : nameOk (bs n.Name) with
  | false =>
   simp only [Bool.not_false, cT]
   exact hfalse (by
    intro h
    rcases h with h | h | h | h | h
    ·omega
    ·omega
    ·omega
    ·rw [hq] at h; exact absurd h.2.2.2.2.2 (by simp)
    ·omega)
  | true =>
   simp only [Bool.not_true, cF]
   rw [j0_shape]
   refine hdec ?_
   constructor
   ·rintro ⟨a, b, c, d, _⟩
    exact .inr (.inr (.inr (.inl ⟨h6, b, List.eq_nil_of_length_eq_zero (by omega), c, d, hq⟩)))
   ·intro h
    rcases h with h | h | h | h | h
    ·omega
    ·omega
    ·omega
    ·exact ⟨by rw [h.2.2.1]; rfl, h.2.1, h.2.2.2.1, h.2.2.2.2.1, rfl⟩
    ·omega
 have b6 : (n.Op == 6) = false := by simpa using h6
 rw [b6, cF]
 by_cases h1 : n.Op = 1
 ·have b1 : (n.Op == 1) = true := by simpa using h1
  rw [b1, cT, j0_shape]
  refine hdec ?_
  constructor
  ·rintro ⟨a, b, c, d, e⟩
   exact .inr (.inr (.inr (.inr ⟨h1, b, List.eq_nil_of_length_eq_zero (by omega), c, d, e⟩)))
  ·intro h
   rcases h with h | h | h | h | h
   ·omega
   ·omega
   ·omega
   ·omega
   ·exact ⟨by rw [h.2.2.1]; rfl, h.2.1, h.2.2.2.1, h.2.2.2.2.1, h.2.2.2.2.2⟩
 have b1 : (n.Op == 1) = false := by simpa using h1
 rw [b1, cF]
 exact hfalse (by
  intro h
  rcases h with h | h | h | h | h <;> omega)
/- Nodes as a tree: the places that are open. -/
def stk : List Int → Nat → List aNd → Option (List Int)
 | o, _, [] => some o
 | o, i, n :: l => if Shape n ∧ n.L.length ≤ o.length ∧ o.drop (o.length - n.L.length) = n.L then stk (o.take (o.length - n.L.length) ++ [(i : Int)]) (i + 1) l else none
def rightS (l : List aNd) : Bool := decide (1 ≤ l.length) && decide (l.length ≤ 1024) && match stk [] 0 l with | some o => decide (o.length = 1) | none => false
theorem equal_l0 (K : Nat) (x y : List Int) (hxy : x.length = y.length) (hx : x.length ≤ 9223372036854775807) : ∀ (m k i : Nat), x.length - i = m → i ≤ x.length → m < k → slices_Equal_int_l0 K k x y (x.length : Int) (i : Int) = some (decide (x.drop i = y.drop i)) := by
 intro m
 induction m with
 | zero =>
  intro k i hm hi hk
  obtain ⟨k, rfl⟩ : ∃ k', k = k' + 1 := ⟨k - 1, by omega⟩
  rw [slices_Equal_int_l0]
  dsimp only
  rw [show decide ((i : Int) < (x.length : Int)) = false from decide_eq_false (by omega), cF, List.drop_eq_nil_of_le (by omega), List.drop_eq_nil_of_le (by omega)]
  simp
 | succ m ih =>
  intro k i hm hi hk
  obtain ⟨k, rfl⟩ : ∃ k', k = k' + 1 := ⟨k - 1, by omega⟩
  have h1 : i < x.length := by omega
  have h2 : i < y.length := by omega
  rw [slices_Equal_int_l0]
  dsimp only
  rw [show decide ((i : Int) < (x.length : Int)) = true from decide_eq_true (by omega), cT, geti_nat h1, bS, geti_nat h2, bS, w64s (n := i) (by omega), ih k (i + 1) (by omega) (by omega) (by omega), List.drop_eq_getElem_cons h1, List.drop_eq_getElem_cons h2]
  by_cases he : x[i] = y[i]
  ·have : (x[i] != y[i]) = false := by simpa using he
   rw [this, cF]
   simp only [List.cons.injEq, he, true_and]
  ·have : (x[i] != y[i]) = true := by simpa using he
   rw [this, cT]
   simp only [List.cons.injEq, he, false_and, decide_false]
theorem equal_ok (K : Nat) (x y : List Int) (hx : x.length ≤ 9223372036854775807) (hK : x.length < K) : slices_Equal_int K x y = some (decide (x = y)) := by
 rw [slices_Equal_int]
 by_cases h : x.length = y.length
 ·have : ((x.length : Int) != (y.length : Int)) = false := by simp; omega
  rw [this, cF]
  have := equal_l0 K x y h hx x.length K 0 (by omega) (by omega) hK
  simpa using this
 ·have : ((x.length : Int) != (y.length : Int)) = true := by simp; omega
  rw [this, cT, decide_eq_false (fun he => h (by rw [he]))]
def NodesOk (K : Nat) (l : List aNd) : Prop := ∀ n ∈ l, (n.Name.size < K ∧ n.Name.size ≤ 9223372036854775807) ∧ n.L.length < K ∧ n.L.length ≤ 9223372036854775807
theorem right_l1 (K : Nat) (hK : 1100 ≤ K) (l : List aNd) (hl : l.length ≤ 1024) (hn : NodesOk K l) : ∀ (m k i : Nat) (o : List Int), l.length - i = m → i ≤ l.length → m < k → o.length ≤ i →
  sy_Right_l1 K k l (l.length : Int) (i : Int) o = some (match stk o i (l.drop i) with | some o => decide (o.length = 1) | none => false) := by
 intro m
 induction m with
 | zero =>
  intro k i o hm hi hk ho
  obtain ⟨k, rfl⟩ : ∃ k', k = k' + 1 := ⟨k - 1, by omega⟩
  rw [sy_Right_l1]
  dsimp only
  rw [show decide ((i : Int) < (l.length : Int)) = false from decide_eq_false (by omega), cF, List.drop_eq_nil_of_le (by omega)]
  simp only [stk]
  congr 1
  rw [Bool.eq_iff_iff, beq_iff_eq, decide_eq_true_eq]
  omega
 | succ m ih =>
  intro k i o hm hi hk ho
  obtain ⟨k, rfl⟩ : ∃ k', k = k' + 1 := ⟨k - 1, by omega⟩
  have hlt : i < l.length := by omega
  have hni := hn _ (List.getElem_mem hlt)
  rw [sy_Right_l1, List.drop_eq_getElem_cons hlt]
  dsimp only
  rw [show decide ((i : Int) < (l.length : Int)) = true from decide_eq_true (by omega), cT, geti_nat hlt, bS, shaped_ok K _ hni.1 hni.2.2, bS, stk]
  by_cases hs : Shape l[i]
  ·rw [decide_eq_true hs]
   simp only [Bool.not_true, cF]
   by_cases hlen : l[i].L.length ≤ o.length
   ·rw [show decide ((o.length : Int) < (l[i].L.length : Int)) = false from decide_eq_false (by omega), cF]
    have ew : IntKind.i64.wrap ((o.length : Int) - (l[i].L.length : Int)) = ((o.length - l[i].L.length : Nat) : Int) := by rw [w64 (by omega) (by omega)]; omega
    rw [ew, Int.toNat_natCast, ck_pos ⟨by omega, by omega⟩, equal_ok K _ _ (by rw [List.length_drop]; omega) (by rw [List.length_drop]; omega), bS]
    by_cases he : o.drop (o.length - l[i].L.length) = l[i].L
    ·rw [decide_eq_true he]
     simp only [Bool.not_true, cF]
     rw [ck_pos (by simp only [List.length_cons, List.length_nil]; exact roomy8 (by rw [List.length_take]; omega)), w64s (n := i) (by omega), if_pos ⟨hs, hlen, he⟩]
     exact ih k (i + 1) _ (by omega) (by omega) (by omega) (by simp only [List.length_append, List.length_take, List.length_cons, List.length_nil]; omega)
    ·rw [decide_eq_false he, if_neg (fun h => he h.2.2)]
     simp only [Bool.not_false, cT]
   ·rw [show decide ((o.length : Int) < (l[i].L.length : Int)) = true from decide_eq_true (by omega), cT, sy_Right_j2, if_neg (fun h => hlen h.2.1)]
  ·rw [decide_eq_false hs, if_neg (fun h => hs h.1)]
   simp only [Bool.not_false, cT, sy_Right_j2]
theorem Right_ok (K : Nat) (hK : 1100 ≤ K) (l : List aNd) (hn : NodesOk K l) : sy_Right K l = some (rightS l) := by
 rw [sy_Right, rightS]
 by_cases h1 : l.length < 1
 ·rw [show decide ((l.length : Int) < 1) = true from decide_eq_true (by omega), cT, sy_Right_j0, show decide (1 ≤ l.length) = false from decide_eq_false (by omega)]
  rfl
 ·rw [show decide ((l.length : Int) < 1) = false from decide_eq_false (by omega), cF, show decide (1 ≤ l.length) = true from decide_eq_true (by omega)]
  by_cases h2 : 1024 < l.length
  ·rw [show decide ((l.length : Int) > 1024) = true from decide_eq_true (by omega), cT, sy_Right_j0, show decide (l.length ≤ 1024) = false from decide_eq_false (by omega)]
   rfl
  ·rw [show decide ((l.length : Int) > 1024) = false from decide_eq_false (by omega), cF, show decide (l.length ≤ 1024) = true from decide_eq_true (by omega)]
   have := right_l1 K hK l (by omega) hn l.length K 0 [] (by omega) (by omega) (by omega) (by simp)
   rw [List.drop_zero] at this
   exact this
/- A tree's nodes are Right. -/
theorem stk_flat : ∀ (b : Bool) (t : Pt), t.wf b → ∀ (o : List Int) (i : Nat) (rest : List aNd),
  stk o i (t.flat i ++ rest) = stk (o ++ (if b then [((i + t.sz : Nat) : Int) - 1] else t.roots i)) (i + t.sz) rest := by
 intro b t
 have leaf : ∀ (n : aNd) (o : List Int) (i : Nat) (rest : List aNd), Shape n → n.L = [] → stk o i ([n] ++ rest) = stk (o ++ [((i + 1 : Nat) : Int) - 1]) (i + 1) rest := by
  intro n o i rest hs hl
  rw [List.singleton_append, stk, if_pos ⟨hs, by rw [hl]; simp, by rw [hl]; simp⟩, hl]
  simp
 induction t generalizing b with
 | empty =>
  intro h o i rest
  cases b with
  | false => exact h.elim
  | true => exact leaf _ o i rest (by simp [Shape]) rfl
 | set s =>
  intro h o i rest
  cases b with
  | false => exact h.elim
  | true => exact leaf _ o i rest (.inl ⟨rfl, h, rfl, rfl, rfl, rfl⟩) rfl
 | ref nm =>
  intro h o i rest
  cases b with
  | false => exact h.elim
  | true => exact leaf _ o i rest (.inr (.inr (.inr (.inl ⟨rfl, rfl, rfl, rfl, rfl, by rw [bs_toB h.2]; exact h.1⟩)))) rfl
 | nil =>
  intro h o i rest
  cases b with
  | true => exact h.elim
  | false => simp [Pt.flat, Pt.sz, Pt.roots]
 | cons t f iht ihf =>
  intro h o i rest
  cases b with
  | true => exact h.elim
  | false =>
   have h1 := iht true h.1 o i (f.flat (i + t.sz) ++ rest)
   have h2 := ihf false h.2 (o ++ [((i + t.sz : Nat) : Int) - 1]) (i + t.sz) rest
   simp only [if_true, Bool.false_eq_true, if_false] at h1 h2
   simp only [Pt.flat, Pt.roots, Pt.sz, List.append_assoc, Bool.false_eq_true, if_false]
   rw [h1, h2, List.append_assoc, Nat.add_assoc]
   rfl
 | rep t lo hi iht =>
  intro h o i rest
  cases b with
  | false => exact h.elim
  | true =>
   have h1 := iht true h.1 o i ([⟨5, z4, [((i + t.sz : Nat) : Int) - 1], lo, hi, noB⟩] ++ rest)
   simp only [if_true] at h1
   simp only [Pt.flat, Pt.sz, List.append_assoc, if_true]
   rw [h1, List.singleton_append, stk, if_pos ⟨.inr (.inl ⟨rfl, rfl, rfl, rfl, h.2⟩), by simp, by simp⟩]
   simp only [List.length_append, List.length_cons, List.length_nil, Nat.add_sub_cancel, List.take_left', List.take_left]
   rw [show (((i + (t.sz + 1) : Nat) : Int) - 1) = ((i + t.sz : Nat) : Int) by omega]
   simp [Nat.add_assoc]
 | cat f ihf =>
  intro h o i rest
  cases b with
  | false => exact h.elim
  | true =>
   have h1 := ihf false h.2 o i ([⟨3, z4, f.roots i, 0, 0, noB⟩] ++ rest)
   simp only [Bool.false_eq_true, if_false] at h1
   simp only [Pt.flat, Pt.sz, List.append_assoc, if_true]
   rw [h1, List.singleton_append, stk, if_pos ⟨.inr (.inr (.inl ⟨.inl rfl, rfl, by rw [Pt.roots_len]; exact h.1, rfl, rfl, rfl⟩)), by simp, by simp⟩]
   simp only [List.length_append, Nat.add_sub_cancel, List.take_left]
   rw [show (((i + (f.sz + 1) : Nat) : Int) - 1) = ((i + f.sz : Nat) : Int) by omega]
   simp [Nat.add_assoc]
 | alt f ihf =>
  intro h o i rest
  cases b with
  | false => exact h.elim
  | true =>
   have h1 := ihf false h.2 o i ([⟨4, z4, f.roots i, 0, 0, noB⟩] ++ rest)
   simp only [Bool.false_eq_true, if_false] at h1
   simp only [Pt.flat, Pt.sz, List.append_assoc, if_true]
   rw [h1, List.singleton_append, stk, if_pos ⟨.inr (.inr (.inl ⟨.inr rfl, rfl, by rw [Pt.roots_len]; exact h.1, rfl, rfl, rfl⟩)), by simp, by simp⟩]
   simp only [List.length_append, Nat.add_sub_cancel, List.take_left]
   rw [show (((i + (f.sz + 1) : Nat) : Int) - 1) = ((i + f.sz : Nat) : Int) by omega]
   simp [Nat.add_assoc]
theorem wf_sz {t : Pt} (h : t.wf true) : 1 ≤ t.sz := by
 cases t with
 | nil => exact h.elim
 | cons => exact h.elim
 | _ => simp [Pt.sz]
theorem flat_right {t : Pt} (h : t.wf true) (hs : t.sz ≤ 1024) : rightS (t.flat 0) = true := by
 have h1 := stk_flat true t h [] 0 []
 rw [List.append_nil] at h1
 have := wf_sz h
 rw [rightS, h1, Pt.flat_len]
 simp only [stk, if_true, List.nil_append, List.length_cons, List.length_nil, decide_true, Bool.and_true]
 simp [this, hs]
theorem nameOk_len {nm : List Nat} (h : nameOk nm = true) : nm.length ≤ 32 := by
 unfold nameOk at h
 simp only [Bool.and_eq_true, decide_eq_true_eq] at h
 exact h.2
theorem len_sz : ∀ (f : Pt), f.wf false → f.len ≤ f.sz := by
 intro f
 induction f with
 | cons t g _ ih =>
  intro h
  have h1 := wf_sz h.1
  have h2 := ih h.2
  simp only [Pt.len, Pt.sz]; omega
 | nil => intro _; simp [Pt.len]
 | _ => intro h; exact h.elim
theorem flat_nodes (K : Nat) (hK : 1100 ≤ K) : ∀ (t : Pt) (b : Bool), t.wf b → t.sz ≤ 1024 → ∀ n, NodesOk K (t.flat n) := by
 intro t
 induction t with
 | empty => intro b h _ n x hx; simp [Pt.flat] at hx; subst hx; exact ⟨⟨by show 0 < K; omega, Nat.zero_le _⟩, by show 0 < K; omega, Nat.zero_le _⟩
 | set s => intro b h _ n x hx; simp [Pt.flat] at hx; subst hx; exact ⟨⟨by show 0 < K; omega, Nat.zero_le _⟩, by show 0 < K; omega, Nat.zero_le _⟩
 | ref nm =>
  intro b h _ n x hx
  cases b with
  | false => exact h.elim
  | true =>
   have := nameOk_len h.1
   simp [Pt.flat] at hx; subst hx
   exact ⟨⟨by rw [toB_size]; omega, by rw [toB_size]; omega⟩, by show 0 < K; omega, Nat.zero_le _⟩
 | rep t lo hi ih =>
  intro b h hs n x hx
  cases b with
  | false => exact h.elim
  | true =>
   simp only [Pt.flat, Pt.sz, List.mem_append, List.mem_singleton] at hx hs
   rcases hx with hx | rfl
   ·exact ih true h.1 (by omega) n x hx
   ·exact ⟨⟨by show 0 < K; omega, Nat.zero_le _⟩, by show 1 < K; omega, by show 1 ≤ 9223372036854775807; omega⟩
 | cat f ih =>
  intro b h hs n x hx
  cases b with
  | false => exact h.elim
  | true =>
   have := len_sz f h.2
   simp only [Pt.flat, Pt.sz, List.mem_append, List.mem_singleton] at hx hs
   rcases hx with hx | rfl
   ·exact ih false h.2 (by omega) n x hx
   ·exact ⟨⟨by show 0 < K; omega, Nat.zero_le _⟩, by rw [Pt.roots_len]; omega, by rw [Pt.roots_len]; omega⟩
 | alt f ih =>
  intro b h hs n x hx
  cases b with
  | false => exact h.elim
  | true =>
   have := len_sz f h.2
   simp only [Pt.flat, Pt.sz, List.mem_append, List.mem_singleton] at hx hs
   rcases hx with hx | rfl
   ·exact ih false h.2 (by omega) n x hx
   ·exact ⟨⟨by show 0 < K; omega, Nat.zero_le _⟩, by rw [Pt.roots_len]; omega, by rw [Pt.roots_len]; omega⟩
 | nil => intro b h _ n x hx; simp [Pt.flat] at hx
 | cons t f iht ihf =>
  intro b h hs n x hx
  cases b with
  | true => exact h.elim
  | false =>
   simp only [Pt.flat, Pt.sz, List.mem_append] at hx hs
   rcases hx with hx | hx
   ·exact iht true h.1 (by omega) n x hx
   ·exact ihf false h.2 (by omega) _ x hx
end Go.Rv
namespace Go.Rv
def Pt.app : Pt → Pt → Pt
 | .cons t f, g => .cons t (f.app g)
 | _, g => g
/- The document's answer: the walk. -/
end Go.Rv
namespace Go.Rv
inductive WkF (l : List aNd) : Nat → List Int → List Int → Prop
 | nil (b : Nat) : WkF l b [] []
 | cons {b k : Nat} {n : aNd} {ks w1 w2 : List Int} (hk : k < b) (hn : l[k]? = some n) (h1 : WkF l k n.L w1) (h2 : WkF l b ks w2) : WkF l b ((k : Int) :: ks) ((w1 ++ [(k : Int)]) ++ w2)
end Go.Rv

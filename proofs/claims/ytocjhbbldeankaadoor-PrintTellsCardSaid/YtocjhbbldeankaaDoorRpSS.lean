/- Patterns, plainly: what has a node just what its kind has; a tree's nodes are Right. -/
/- Patterns, plainly: nodes that are Right are a tree's. -/
/- SyntaxRights, plainly: whether nodes are a tree is the document's. -/
import Derived.Test.YtocjhbbldeankaaDoorRpSO
namespace Go.Rv
theorem beqB (a b : ByteArray) : (a.toList == b.toList) = decide (a = b) := by
  rw [Bool.eq_iff_iff, beq_iff_eq, decide_eq_true_eq, ByteArray.toList_eq, ByteArray.toList_eq]
  exact ⟨fun h => ByteArray.ext (Array.toList_inj.1 h), fun h => by rw [h]⟩
def Shape (n : aNd) : Prop :=
  (n.Op = 2 ∧ n.S ≠ z4 ∧ n.L = [] ∧ n.Lo = 0 ∧ n.Hi = 0 ∧ n.Name = noB) ∨
  (n.Op = 5 ∧ n.S = z4 ∧ n.L.length = 1 ∧ n.Name = noB ∧ 0 ≤ n.Lo ∧ n.Lo ≤ 4096 ∧ (n.Hi = -1 ∨ (1 ≤ n.Hi ∧ n.Lo ≤ n.Hi ∧ n.Hi ≤ 4096))) ∨
  ((n.Op = 3 ∨ n.Op = 4) ∧ n.S = z4 ∧ 2 ≤ n.L.length ∧ n.Lo = 0 ∧ n.Hi = 0 ∧ n.Name = noB) ∨
  (n.Op = 6 ∧ n.S = z4 ∧ n.L = [] ∧ n.Lo = 0 ∧ n.Hi = 0 ∧ nameOk (bs n.Name) = true) ∨
  (n.Op = 1 ∧ n.S = z4 ∧ n.L = [] ∧ n.Lo = 0 ∧ n.Hi = 0 ∧ n.Name = noB)
instance (n : aNd) : Decidable (Shape n) := by unfold Shape; infer_instance
theorem len_nil {α : Type} (l : List α) : ((l.length : Int) == 0) = decide (l = []) := by
  rw [Bool.eq_iff_iff, beq_iff_eq, decide_eq_true_eq]
  constructor
  · intro h; exact List.eq_nil_of_length_eq_zero (by omega)
  · rintro rfl; rfl
theorem beqI (a b : Int) : (a == b) = decide (a = b) := by rw [Bool.eq_iff_iff, beq_iff_eq, decide_eq_true_eq]
theorem j0_shape (K : Nat) (x4 : Int) (n : aNd) (y : Arr4) (lo hi : Int) (nm : ByteArray) : sy_shaped_j0 K x4 n y lo hi nm = some (decide (x4 = 0 ∧ n.S = y ∧ n.Lo = lo ∧ n.Hi = hi ∧ n.Name = nm)) := by
  rw [sy_shaped_j0]
  have e1 : Arr4.same n.S y = decide (n.S = y) := by rw [Bool.eq_iff_iff, same_iff, decide_eq_true_eq]
  rw [beqI, e1, beqI, beqI, beqB]
  by_cases h1 : x4 = 0
  · by_cases h2 : n.S = y
    · by_cases h3 : n.Lo = lo
      · by_cases h4 : n.Hi = hi
        · simp [h1, h2, h3, h4]
        · simp [h1, h2, h3, h4]
      · simp [h1, h2, h3]
    · simp [h1, h2]
  · simp [h1]
theorem shaped_ok (K : Nat) (n : aNd) (hn : n.Name.size < K ∧ n.Name.size ≤ 9223372036854775807) (hl : n.L.length ≤ 9223372036854775807) : sy_shaped K n = some (decide (Shape n)) := by
  have hdec : ∀ {p : Prop} [Decidable p], (p ↔ Shape n) → some (decide p) = some (decide (Shape n)) := fun h => by simp only [h]
  have hfalse : ¬ Shape n → some false = some (decide (Shape n)) := fun h => by rw [decide_eq_false h]
  have hsame : Arr4.same n.S ⟨0, 0, 0, 0⟩ = decide (n.S = z4) := z4_same n.S
  rw [sy_shaped]
  by_cases h2 : n.Op = 2
  · simp only [h2, beq_self_eq_true, cond_true, hsame]
    by_cases hz : n.S = z4
    · rw [decide_eq_true hz, cond_true]
      exact hfalse (by simp [Shape, h2, hz])
    · rw [decide_eq_false hz, cond_false, j0_shape]
      refine hdec ?_
      simp only [Shape, h2]
      constructor
      · rintro ⟨a, _, b, c, d⟩
        exact .inl ⟨by simp, hz, List.eq_nil_of_length_eq_zero (by omega), b, c, d⟩
      · intro h
        rcases h with h | h | h | h | h
        · exact ⟨by rw [h.2.2.1]; rfl, by simp, h.2.2.2.1, h.2.2.2.2.1, h.2.2.2.2.2⟩
        · omega
        · omega
        · omega
        · omega
  have b2 : (n.Op == 2) = false := by simpa using h2
  rw [b2, cond_false]
  by_cases h5 : n.Op = 5
  · have b5 : (n.Op == 5) = true := by simpa using h5
    rw [b5, cond_true]
    have key : ∀ (hb : 0 ≤ n.Lo ∧ n.Lo ≤ 4096 ∧ (n.Hi = -1 ∨ (1 ≤ n.Hi ∧ n.Lo ≤ n.Hi ∧ n.Hi ≤ 4096))), sy_shaped_j2 K (n.L.length : Int) n ⟨0, 0, 0, 0⟩ = some (decide (Shape n)) := by
      intro hb
      rw [sy_shaped_j2, j0_shape]
      refine hdec ?_
      rw [w64 (by omega) (by omega)]
      simp only [Shape, h5]
      constructor
      · rintro ⟨a, b, _, _, d⟩
        exact .inr (.inl ⟨trivial, b, by omega, d, hb⟩)
      · intro h
        rcases h with h | h | h | h | h
        · omega
        · exact ⟨by omega, h.2.1, trivial, trivial, h.2.2.2.1⟩
        · omega
        · omega
        · omega
    have kno : ¬ (0 ≤ n.Lo ∧ n.Lo ≤ 4096 ∧ (n.Hi = -1 ∨ (1 ≤ n.Hi ∧ n.Lo ≤ n.Hi ∧ n.Hi ≤ 4096))) → some false = some (decide (Shape n)) := fun hb => hfalse (by
      intro h
      rcases h with h | h | h | h | h
      · omega
      · exact hb h.2.2.2.2
      · omega
      · omega
      · omega)
    by_cases c1 : n.Lo < 0
    · rw [decide_eq_true c1, cond_true, sy_shaped_j1]; exact kno (by omega)
    rw [decide_eq_false c1, cond_false]
    by_cases c2 : n.Lo > 4096
    · rw [decide_eq_true c2, cond_true, sy_shaped_j1]; exact kno (by omega)
    rw [decide_eq_false c2, cond_false]
    by_cases c3 : n.Hi = -1
    · have : (n.Hi != -1) = false := by simpa using c3
      rw [this, cond_false]; exact key (by omega)
    have b3 : (n.Hi != -1) = true := by simpa using c3
    rw [b3, cond_true]
    by_cases c4 : n.Hi < (if (1 : Int) > n.Lo then (1 : Int) else n.Lo)
    · rw [decide_eq_true c4, cond_true, sy_shaped_j1]; exact kno (by split at c4 <;> omega)
    rw [decide_eq_false c4, cond_false]
    by_cases c5 : n.Hi > 4096
    · rw [decide_eq_true c5, cond_true, sy_shaped_j1]; exact kno (by omega)
    rw [decide_eq_false c5, cond_false]
    exact key (by split at c4 <;> omega)
  have b5 : (n.Op == 5) = false := by simpa using h5
  rw [b5, cond_false]
  have hrow : n.Op = 3 ∨ n.Op = 4 → sy_shaped_j3 K (n.L.length : Int) n true ⟨0, 0, 0, 0⟩ = some (decide (Shape n)) := by
    intro h34
    rw [sy_shaped_j3, cond_true]
    by_cases c1 : (n.L.length : Int) < 2
    · rw [decide_eq_true c1, cond_true]
      exact hfalse (by
        intro h
        rcases h with h | h | h | h | h <;> omega)
    rw [decide_eq_false c1, cond_false, j0_shape]
    refine hdec ?_
    constructor
    · rintro ⟨_, b, c, d, e⟩
      exact .inr (.inr (.inl ⟨h34, b, by omega, c, d, e⟩))
    · intro h
      rcases h with h | h | h | h | h
      · omega
      · omega
      · exact ⟨rfl, h.2.1, h.2.2.2.1, h.2.2.2.2.1, h.2.2.2.2.2⟩
      · omega
      · omega
  by_cases h3 : n.Op = 3
  · have b3 : (n.Op == 3) = true := by simpa using h3
    rw [b3, cond_true]; exact hrow (.inl h3)
  have b3 : (n.Op == 3) = false := by simpa using h3
  rw [b3, cond_false]
  by_cases h4 : n.Op = 4
  · have b4 : (n.Op == 4) = true := by simpa using h4
    rw [b4]; exact hrow (.inr h4)
  have b4 : (n.Op == 4) = false := by simpa using h4
  rw [b4, sy_shaped_j3, cond_false]
  by_cases h6 : n.Op = 6
  · have b6 : (n.Op == 6) = true := by simpa using h6
    rw [b6, cond_true, Name_ok K _ hn.1 hn.2, Option.bind_some]
    cases hq : nameOk (bs n.Name) with
    | false =>
      simp only [Bool.not_false, cond_true]
      exact hfalse (by
        intro h
        rcases h with h | h | h | h | h
        · omega
        · omega
        · omega
        · rw [hq] at h; exact absurd h.2.2.2.2.2 (by simp)
        · omega)
    | true =>
      simp only [Bool.not_true, cond_false]
      rw [j0_shape]
      refine hdec ?_
      constructor
      · rintro ⟨a, b, c, d, _⟩
        exact .inr (.inr (.inr (.inl ⟨h6, b, List.eq_nil_of_length_eq_zero (by omega), c, d, hq⟩)))
      · intro h
        rcases h with h | h | h | h | h
        · omega
        · omega
        · omega
        · exact ⟨by rw [h.2.2.1]; rfl, h.2.1, h.2.2.2.1, h.2.2.2.2.1, rfl⟩
        · omega
  have b6 : (n.Op == 6) = false := by simpa using h6
  rw [b6, cond_false]
  by_cases h1 : n.Op = 1
  · have b1 : (n.Op == 1) = true := by simpa using h1
    rw [b1, cond_true, j0_shape]
    refine hdec ?_
    constructor
    · rintro ⟨a, b, c, d, e⟩
      exact .inr (.inr (.inr (.inr ⟨h1, b, List.eq_nil_of_length_eq_zero (by omega), c, d, e⟩)))
    · intro h
      rcases h with h | h | h | h | h
      · omega
      · omega
      · omega
      · omega
      · exact ⟨by rw [h.2.2.1]; rfl, h.2.1, h.2.2.2.1, h.2.2.2.2.1, h.2.2.2.2.2⟩
  have b1 : (n.Op == 1) = false := by simpa using h1
  rw [b1, cond_false]
  exact hfalse (by
    intro h
    rcases h with h | h | h | h | h <;> omega)
/- Nodes as a tree: the places that are open. -/
def stk : List Int → Nat → List aNd → Option (List Int)
  | o, _, [] => some o
  | o, i, n :: l => if Shape n ∧ n.L.length ≤ o.length ∧ o.drop (o.length - n.L.length) = n.L then stk (o.take (o.length - n.L.length) ++ [(i : Int)]) (i + 1) l else none
def rightS (l : List aNd) : Bool := decide (1 ≤ l.length) && decide (l.length ≤ 1024) && match stk [] 0 l with | some o => decide (o.length = 1) | none => false
theorem equal_l0 (K : Nat) (x y : List Int) (hxy : x.length = y.length) (hx : x.length ≤ 9223372036854775807) : ∀ (m k i : Nat), x.length - i = m → i ≤ x.length → m < k → slices_Equal_int_l0 K k x y (x.length : Int) (i : Int) = some (decide (x.drop i = y.drop i)) := by
  intro m
  induction m with
  | zero =>
    intro k i hm hi hk
    obtain ⟨k, rfl⟩ : ∃ k', k = k' + 1 := ⟨k - 1, by omega⟩
    rw [slices_Equal_int_l0]
    dsimp only
    rw [show decide ((i : Int) < (x.length : Int)) = false from decide_eq_false (by omega), cond_false, List.drop_eq_nil_of_le (by omega), List.drop_eq_nil_of_le (by omega)]
    simp
  | succ m ih =>
    intro k i hm hi hk
    obtain ⟨k, rfl⟩ : ∃ k', k = k' + 1 := ⟨k - 1, by omega⟩
    have h1 : i < x.length := by omega
    have h2 : i < y.length := by omega
    rw [slices_Equal_int_l0]
    dsimp only
    rw [show decide ((i : Int) < (x.length : Int)) = true from decide_eq_true (by omega), cond_true, geti_nat h1, Option.bind_some, geti_nat h2, Option.bind_some, w64s (n := i) (by omega), ih k (i + 1) (by omega) (by omega) (by omega), List.drop_eq_getElem_cons h1, List.drop_eq_getElem_cons h2]
    by_cases he : x[i] = y[i]
    · have : (x[i] != y[i]) = false := by simpa using he
      rw [this, cond_false]
      simp only [List.cons.injEq, he, true_and]
    · have : (x[i] != y[i]) = true := by simpa using he
      rw [this, cond_true]
      simp only [List.cons.injEq, he, false_and, decide_false]
theorem equal_ok (K : Nat) (x y : List Int) (hx : x.length ≤ 9223372036854775807) (hK : x.length < K) : slices_Equal_int K x y = some (decide (x = y)) := by
  rw [slices_Equal_int]
  by_cases h : x.length = y.length
  · have : ((x.length : Int) != (y.length : Int)) = false := by simp; omega
    rw [this, cond_false]
    have := equal_l0 K x y h hx x.length K 0 (by omega) (by omega) hK
    simpa using this
  · have : ((x.length : Int) != (y.length : Int)) = true := by simp; omega
    rw [this, cond_true, decide_eq_false (fun he => h (by rw [he]))]
def NodesOk (K : Nat) (l : List aNd) : Prop := ∀ n ∈ l, (n.Name.size < K ∧ n.Name.size ≤ 9223372036854775807) ∧ n.L.length < K ∧ n.L.length ≤ 9223372036854775807
theorem right_l1 (K : Nat) (hK : 1100 ≤ K) (l : List aNd) (hl : l.length ≤ 1024) (hn : NodesOk K l) : ∀ (m k i : Nat) (o : List Int), l.length - i = m → i ≤ l.length → m < k → o.length ≤ i →
    sy_Right_l1 K k l (l.length : Int) (i : Int) o = some (match stk o i (l.drop i) with | some o => decide (o.length = 1) | none => false) := by
  intro m
  induction m with
  | zero =>
    intro k i o hm hi hk ho
    obtain ⟨k, rfl⟩ : ∃ k', k = k' + 1 := ⟨k - 1, by omega⟩
    rw [sy_Right_l1]
    dsimp only
    rw [show decide ((i : Int) < (l.length : Int)) = false from decide_eq_false (by omega), cond_false, List.drop_eq_nil_of_le (by omega)]
    simp only [stk]
    congr 1
    rw [Bool.eq_iff_iff, beq_iff_eq, decide_eq_true_eq]
    omega
  | succ m ih =>
    intro k i o hm hi hk ho
    obtain ⟨k, rfl⟩ : ∃ k', k = k' + 1 := ⟨k - 1, by omega⟩
    have hlt : i < l.length := by omega
    have hni := hn _ (List.getElem_mem hlt)
    rw [sy_Right_l1, List.drop_eq_getElem_cons hlt]
    dsimp only
    rw [show decide ((i : Int) < (l.length : Int)) = true from decide_eq_true (by omega), cond_true, geti_nat hlt, Option.bind_some, shaped_ok K _ hni.1 hni.2.2, Option.bind_some, stk]
    by_cases hs : Shape l[i]
    · rw [decide_eq_true hs]
      simp only [Bool.not_true, cond_false]
      by_cases hlen : l[i].L.length ≤ o.length
      · rw [show decide ((o.length : Int) < (l[i].L.length : Int)) = false from decide_eq_false (by omega), cond_false]
        have ew : IntKind.i64.wrap ((o.length : Int) - (l[i].L.length : Int)) = ((o.length - l[i].L.length : Nat) : Int) := by rw [w64 (by omega) (by omega)]; omega
        rw [ew, Int.toNat_natCast, ck_pos ⟨by omega, by omega⟩, equal_ok K _ _ (by rw [List.length_drop]; omega) (by rw [List.length_drop]; omega), Option.bind_some]
        by_cases he : o.drop (o.length - l[i].L.length) = l[i].L
        · rw [decide_eq_true he]
          simp only [Bool.not_true, cond_false]
          rw [ck_pos (by simp only [List.length_cons, List.length_nil]; exact roomy8 (by rw [List.length_take]; omega)), w64s (n := i) (by omega), if_pos ⟨hs, hlen, he⟩]
          exact ih k (i + 1) _ (by omega) (by omega) (by omega) (by simp only [List.length_append, List.length_take, List.length_cons, List.length_nil]; omega)
        · rw [decide_eq_false he, if_neg (fun h => he h.2.2)]
          simp only [Bool.not_false, cond_true]
      · rw [show decide ((o.length : Int) < (l[i].L.length : Int)) = true from decide_eq_true (by omega), cond_true, sy_Right_j2, if_neg (fun h => hlen h.2.1)]
    · rw [decide_eq_false hs, if_neg (fun h => hs h.1)]
      simp only [Bool.not_false, cond_true, sy_Right_j2]
theorem Right_ok (K : Nat) (hK : 1100 ≤ K) (l : List aNd) (hn : NodesOk K l) : sy_Right K l = some (rightS l) := by
  rw [sy_Right, rightS]
  by_cases h1 : l.length < 1
  · rw [show decide ((l.length : Int) < 1) = true from decide_eq_true (by omega), cond_true, sy_Right_j0, show decide (1 ≤ l.length) = false from decide_eq_false (by omega)]
    rfl
  · rw [show decide ((l.length : Int) < 1) = false from decide_eq_false (by omega), cond_false, show decide (1 ≤ l.length) = true from decide_eq_true (by omega)]
    by_cases h2 : 1024 < l.length
    · rw [show decide ((l.length : Int) > 1024) = true from decide_eq_true (by omega), cond_true, sy_Right_j0, show decide (l.length ≤ 1024) = false from decide_eq_false (by omega)]
      rfl
    · rw [show decide ((l.length : Int) > 1024) = false from decide_eq_false (by omega), cond_false, show decide (l.length ≤ 1024) = true from decide_eq_true (by omega)]
      have := right_l1 K hK l (by omega) hn l.length K 0 [] (by omega) (by omega) (by omega) (by simp)
      rw [List.drop_zero] at this
      exact this
/- A tree's nodes are Right. -/
theorem stk_flat : ∀ (b : Bool) (t : Pt), t.wf b → ∀ (o : List Int) (i : Nat) (rest : List aNd),
    stk o i (t.flat i ++ rest) = stk (o ++ (if b then [((i + t.sz : Nat) : Int) - 1] else t.roots i)) (i + t.sz) rest := by
  intro b t
  have leaf : ∀ (n : aNd) (o : List Int) (i : Nat) (rest : List aNd), Shape n → n.L = [] → stk o i ([n] ++ rest) = stk (o ++ [((i + 1 : Nat) : Int) - 1]) (i + 1) rest := by
    intro n o i rest hs hl
    rw [List.singleton_append, stk, if_pos ⟨hs, by rw [hl]; simp, by rw [hl]; simp⟩, hl]
    simp
  induction t generalizing b with
  | empty =>
    intro h o i rest
    cases b with
    | false => exact h.elim
    | true => exact leaf _ o i rest (by simp [Shape]) rfl
  | set s =>
    intro h o i rest
    cases b with
    | false => exact h.elim
    | true => exact leaf _ o i rest (.inl ⟨rfl, h, rfl, rfl, rfl, rfl⟩) rfl
  | ref nm =>
    intro h o i rest
    cases b with
    | false => exact h.elim
    | true => exact leaf _ o i rest (.inr (.inr (.inr (.inl ⟨rfl, rfl, rfl, rfl, rfl, by rw [bs_toB h.2]; exact h.1⟩)))) rfl
  | nil =>
    intro h o i rest
    cases b with
    | true => exact h.elim
    | false => simp [Pt.flat, Pt.sz, Pt.roots]
  | cons t f iht ihf =>
    intro h o i rest
    cases b with
    | true => exact h.elim
    | false =>
      have h1 := iht true h.1 o i (f.flat (i + t.sz) ++ rest)
      have h2 := ihf false h.2 (o ++ [((i + t.sz : Nat) : Int) - 1]) (i + t.sz) rest
      simp only [if_true, Bool.false_eq_true, if_false] at h1 h2
      simp only [Pt.flat, Pt.roots, Pt.sz, List.append_assoc, Bool.false_eq_true, if_false]
      rw [h1, h2, List.append_assoc, Nat.add_assoc]
      rfl
  | rep t lo hi iht =>
    intro h o i rest
    cases b with
    | false => exact h.elim
    | true =>
      have h1 := iht true h.1 o i ([⟨5, z4, [((i + t.sz : Nat) : Int) - 1], lo, hi, noB⟩] ++ rest)
      simp only [if_true] at h1
      simp only [Pt.flat, Pt.sz, List.append_assoc, if_true]
      rw [h1, List.singleton_append, stk, if_pos ⟨.inr (.inl ⟨rfl, rfl, rfl, rfl, h.2⟩), by simp, by simp⟩]
      simp only [List.length_append, List.length_cons, List.length_nil, Nat.add_sub_cancel, List.take_left', List.take_left]
      rw [show (((i + (t.sz + 1) : Nat) : Int) - 1) = ((i + t.sz : Nat) : Int) by omega]
      simp [Nat.add_assoc]
  | cat f ihf =>
    intro h o i rest
    cases b with
    | false => exact h.elim
    | true =>
      have h1 := ihf false h.2 o i ([⟨3, z4, f.roots i, 0, 0, noB⟩] ++ rest)
      simp only [Bool.false_eq_true, if_false] at h1
      simp only [Pt.flat, Pt.sz, List.append_assoc, if_true]
      rw [h1, List.singleton_append, stk, if_pos ⟨.inr (.inr (.inl ⟨.inl rfl, rfl, by rw [Pt.roots_len]; exact h.1, rfl, rfl, rfl⟩)), by simp, by simp⟩]
      simp only [List.length_append, Nat.add_sub_cancel, List.take_left]
      rw [show (((i + (f.sz + 1) : Nat) : Int) - 1) = ((i + f.sz : Nat) : Int) by omega]
      simp [Nat.add_assoc]
  | alt f ihf =>
    intro h o i rest
    cases b with
    | false => exact h.elim
    | true =>
      have h1 := ihf false h.2 o i ([⟨4, z4, f.roots i, 0, 0, noB⟩] ++ rest)
      simp only [Bool.false_eq_true, if_false] at h1
      simp only [Pt.flat, Pt.sz, List.append_assoc, if_true]
      rw [h1, List.singleton_append, stk, if_pos ⟨.inr (.inr (.inl ⟨.inr rfl, rfl, by rw [Pt.roots_len]; exact h.1, rfl, rfl, rfl⟩)), by simp, by simp⟩]
      simp only [List.length_append, Nat.add_sub_cancel, List.take_left]
      rw [show (((i + (f.sz + 1) : Nat) : Int) - 1) = ((i + f.sz : Nat) : Int) by omega]
      simp [Nat.add_assoc]
theorem wf_sz {t : Pt} (h : t.wf true) : 1 ≤ t.sz := by
  cases t with
  | nil => exact h.elim
  | cons => exact h.elim
  | _ => simp [Pt.sz]
theorem flat_right {t : Pt} (h : t.wf true) (hs : t.sz ≤ 1024) : rightS (t.flat 0) = true := by
  have h1 := stk_flat true t h [] 0 []
  rw [List.append_nil] at h1
  have := wf_sz h
  rw [rightS, h1, Pt.flat_len]
  simp only [stk, if_true, List.nil_append, List.length_cons, List.length_nil, decide_true, Bool.and_true]
  simp [this, hs]
theorem len_sz : ∀ (f : Pt), f.wf false → f.len ≤ f.sz := by
  intro f
  induction f with
  | cons t g _ ih =>
    intro h
    have h1 := wf_sz h.1
    have h2 := ih h.2
    simp only [Pt.len, Pt.sz]; omega
  | nil => intro _; simp [Pt.len]
  | _ => intro h; exact h.elim
end Go.Rv
namespace Go.Rv
def Pt.app : Pt → Pt → Pt
  | .cons t f, g => .cons t (f.app g)
  | _, g => g
theorem app_flat : ∀ (f : Pt), f.wf false → ∀ (g : Pt) (n : Nat), (f.app g).flat n = f.flat n ++ g.flat (n + f.sz) ∧ (f.app g).roots n = f.roots n ++ g.roots (n + f.sz) ∧ (f.app g).sz = f.sz + g.sz ∧ (g.wf false → (f.app g).wf false) ∧ (f.app g).len = f.len + g.len := by
  intro f
  induction f with
  | nil => intro _ g n; simp [Pt.app, Pt.flat, Pt.roots, Pt.sz, Pt.len]
  | cons t f _ ih =>
    intro h g n
    obtain ⟨h1, h2, h3, h4, h5⟩ := ih h.2 g (n + t.sz)
    refine ⟨?_, ?_, ?_, fun hg => ⟨h.1, h4 hg⟩, ?_⟩
    · simp only [Pt.app, Pt.flat, Pt.sz, h1, List.append_assoc, Nat.add_assoc]
    · simp only [Pt.app, Pt.roots, Pt.sz, h2, List.cons_append, Nat.add_assoc]
    · simp only [Pt.app, Pt.sz, h3, Nat.add_assoc]
    · simp only [Pt.app, Pt.len, h5]; omega
  | _ => intro h; exact h.elim
theorem app_split : ∀ (f : Pt), f.wf false → ∀ m, m ≤ f.len → ∃ f1 f2 : Pt, f = f1.app f2 ∧ f1.wf false ∧ f2.wf false ∧ f2.len = m := by
  intro f
  induction f with
  | nil => intro _ m hm; exact ⟨.nil, .nil, rfl, trivial, trivial, by simp [Pt.len] at hm ⊢; omega⟩
  | cons t f _ ih =>
    intro h m hm
    by_cases he : m = f.len + 1
    · exact ⟨.nil, .cons t f, rfl, trivial, h, by simp [Pt.len, he]⟩
    · simp only [Pt.len] at hm
      obtain ⟨f1, f2, h1, h2, h3, h4⟩ := ih h.2 m (by omega)
      exact ⟨.cons t f1, f2, by rw [Pt.app, ← h1], ⟨h.1, h2⟩, h3, h4⟩
  | _ => intro h; exact h.elim
theorem len_zero {f : Pt} (h : f.wf false) (h0 : f.len = 0) : f = .nil := by
  cases f with
  | nil => rfl
  | cons t g => simp [Pt.len] at h0
  | _ => exact h.elim
theorem node_tree {n : aNd} (hs : Shape n) {f : Pt} (hf : f.wf false) (i : Nat) (hl : f.roots i = n.L) : ∃ t : Pt, t.wf true ∧ t.flat i = f.flat i ++ [n] ∧ t.sz = f.sz + 1 := by
  obtain ⟨op, s, l, lo, hi, nm⟩ := n
  have hlen : f.len = l.length := by rw [← Pt.roots_len f i, hl]
  rcases hs with ⟨h1, h2, h3, h4, h5, h6⟩ | ⟨h1, h2, h3, h4, h5⟩ | ⟨h1, h2, h3, h4, h5, h6⟩ | ⟨h1, h2, h3, h4, h5, h6⟩ | ⟨h1, h2, h3, h4, h5, h6⟩
  · simp only at h1 h2 h3 h4 h5 h6
    subst h1 h3 h4 h5 h6
    have := len_zero hf (by simpa using hlen)
    subst this
    exact ⟨.set s, h2, rfl, rfl⟩
  · simp only at h1 h2 h3 h4 h5
    subst h1 h2 h4
    cases f with
    | cons t g =>
      have := len_zero hf.2 (by simp [Pt.len] at hlen; omega)
      subst this
      refine ⟨.rep t lo hi, ⟨hf.1, h5⟩, ?_, ?_⟩
      · simp only [Pt.roots] at hl
        simp only [Pt.flat, List.append_nil, hl]
      · simp [Pt.sz]
    | nil => simp [Pt.len] at hlen; omega
    | _ => exact hf.elim
  · simp only at h1 h2 h3 h4 h5 h6
    subst h2 h4 h5 h6
    rcases h1 with h1 | h1
    · subst h1
      exact ⟨.cat f, ⟨by omega, hf⟩, by simp only [Pt.flat, hl], rfl⟩
    · subst h1
      exact ⟨.alt f, ⟨by omega, hf⟩, by simp only [Pt.flat, hl], rfl⟩
  · simp only at h1 h2 h3 h4 h5 h6
    subst h1 h2 h3 h4 h5
    have := len_zero hf (by simpa using hlen)
    subst this
    exact ⟨.ref (bs nm), ⟨h6, fun c hc => bs_lt hc⟩, by simp only [Pt.flat, toB_bs, List.nil_append], rfl⟩
  · simp only at h1 h2 h3 h4 h5 h6
    subst h1 h2 h3 h4 h5 h6
    have := len_zero hf (by simpa using hlen)
    subst this
    exact ⟨.empty, trivial, rfl, rfl⟩
theorem stk_tree : ∀ (l : List aNd) (f : Pt) (o : List Int), f.wf false → stk (f.roots 0) f.sz l = some o → ∃ g : Pt, g.wf false ∧ g.flat 0 = f.flat 0 ++ l ∧ g.roots 0 = o := by
  intro l
  induction l with
  | nil =>
    intro f o hf h
    simp only [stk, Option.some.injEq] at h
    exact ⟨f, hf, by simp, h⟩
  | cons n l ih =>
    intro f o hf h
    rw [stk] at h
    split at h
    · rename_i hc
      obtain ⟨hs, hlen, hdrop⟩ := hc
      rw [Pt.roots_len] at hlen hdrop h
      obtain ⟨f1, f2, rfl, hf1, hf2, hf2l⟩ := app_split f hf n.L.length hlen
      obtain ⟨a1, a2, a3, a4, a5⟩ := app_flat f1 hf1 f2 0
      rw [a5, hf2l, Nat.add_sub_cancel, a2] at hdrop h
      have hr1 : (f1.roots 0).length = f1.len := Pt.roots_len f1 0
      rw [← hr1, List.drop_left] at hdrop
      rw [← hr1, List.take_left] at h
      obtain ⟨t, ht, htf, hts⟩ := node_tree hs hf2 (0 + f1.sz) hdrop
      obtain ⟨b1, b2, b3, b4, b5⟩ := app_flat f1 hf1 (.cons t .nil) 0
      have hsz : (f1.app (.cons t .nil)).sz = (f1.app f2).sz + 1 := by rw [b3, a3]; simp [Pt.sz, hts]; omega
      have hroots : (f1.app (.cons t .nil)).roots 0 = f1.roots 0 ++ [(((f1.app f2).sz : Nat) : Int)] := by
        rw [b2, a3]
        simp only [Pt.roots, hts]
        congr 2
        omega
      obtain ⟨g, hg, hgf, hgr⟩ := ih (f1.app (.cons t .nil)) o (b4 ⟨ht, trivial⟩) (by rw [hroots, hsz]; exact h)
      refine ⟨g, hg, ?_, hgr⟩
      rw [hgf, b1, a1]
      simp only [Pt.flat, List.append_nil, htf, List.append_assoc, List.cons_append, List.nil_append]
    · cases h
theorem right_iff (l : List aNd) : rightS l = true ↔ ∃ t : Pt, t.wf true ∧ t.flat 0 = l ∧ t.sz ≤ 1024 := by
  constructor
  · intro h
    simp only [rightS, Bool.and_eq_true, decide_eq_true_eq] at h
    obtain ⟨⟨h1, h2⟩, h3⟩ := h
    cases ho : stk [] 0 l with
    | none => rw [ho] at h3; cases h3
    | some o =>
      rw [ho] at h3
      simp only [decide_eq_true_eq] at h3
      obtain ⟨g, hg, hgf, hgr⟩ := stk_tree l .nil o trivial ho
      simp only [Pt.flat, List.nil_append] at hgf
      have hlen : g.len = 1 := by rw [← Pt.roots_len g 0, hgr, h3]
      cases g with
      | cons t g =>
        have := len_zero hg.2 (by simp [Pt.len] at hlen; omega)
        subst this
        simp only [Pt.flat, List.append_nil] at hgf
        exact ⟨t, hg.1, hgf, by rw [← Pt.flat_len t 0, hgf]; exact h2⟩
      | nil => simp [Pt.len] at hlen
      | _ => exact hg.elim
  · rintro ⟨t, ht, rfl, hs⟩
    exact flat_right ht hs
/- The document's answer: the walk. -/
theorem rletter (K c : Nat) : r4_letter K (c : Int) = some (letterN c) := sletter K c
theorem rdigit (K c : Nat) : r4_digit K (c : Int) = some (isDig c) := sdigit K c
theorem rName_l0 (K : Nat) (t : ByteArray) (ht : t.size ≤ 9223372036854775807) : ∀ (m k i : Nat), t.size - i = m → i ≤ t.size → m < k → 0 < i →
    r4_Name_l0 K k t (i : Int) = some (((bs t).drop i).all (fun c => letterN c || isDig c) && decide (t.size ≤ 32)) := by
  intro m
  induction m with
  | zero =>
    intro k i hm hi hk h0
    obtain ⟨k, rfl⟩ : ∃ k', k = k' + 1 := ⟨k - 1, by omega⟩
    rw [r4_Name_l0]
    dsimp only
    have e1 : decide ((i : Int) < (t.size : Int)) = false := decide_eq_false (by omega)
    have e2 : decide ((t.size : Int) ≥ 1) = true := decide_eq_true (by omega)
    have e3 : decide ((t.size : Int) ≤ 32) = decide (t.size ≤ 32) := by rw [Bool.eq_iff_iff, decide_eq_true_eq, decide_eq_true_eq]; omega
    rw [e1, cond_false, e2, cond_true, e3, List.drop_eq_nil_of_le (by rw [bs_len]; omega)]
    simp
  | succ m ih =>
    intro k i hm hi hk h0
    obtain ⟨k, rfl⟩ : ∃ k', k = k' + 1 := ⟨k - 1, by omega⟩
    have hlt : i < t.size := by omega
    have hlt' : i < (bs t).length := by rw [bs_len]; exact hlt
    rw [r4_Name_l0]
    dsimp only
    have e1 : decide ((i : Int) < (t.size : Int)) = true := decide_eq_true (by omega)
    have hb : bt t (i : Int) = ((bs t)[i] : Int) := by rw [bt_bs, List.getElem?_eq_getElem hlt']; rfl
    rw [e1, cond_true, ck_pos ⟨by omega, by omega⟩, hb, rletter, Option.bind_some, List.drop_eq_getElem_cons hlt', List.all_cons]
    have e4 : ((i : Int) == 0) = false := by simp; omega
    have hr := ih k (i + 1) (by omega) (by omega) (by omega) (by omega)
    rw [w64s (n := i) (by omega)]
    cases letterN (bs t)[i] with
    | true => simp only [Bool.not_true, cond_false, Bool.true_or, Bool.true_and]; exact hr
    | false =>
      simp only [Bool.not_false, cond_true, e4, cond_false, rdigit, Option.bind_some, Bool.false_or]
      cases isDig (bs t)[i] with
      | true => simp only [Bool.not_true, cond_false, Bool.true_and]; exact hr
      | false => simp only [Bool.not_false, cond_true, Bool.false_and, r4_Name_j1]
theorem rName_ok (K : Nat) (t : ByteArray) (hK : t.size < K) (ht : t.size ≤ 9223372036854775807) : r4_Name K t = some (nameOk (bs t)) := by
  obtain ⟨k, rfl⟩ : ∃ k', K = k' + 1 := ⟨K - 1, by omega⟩
  have hlen := bs_len t
  rw [r4_Name, r4_Name_l0]
  dsimp only
  by_cases h0 : t.size = 0
  · have e1 : decide ((0 : Int) < (t.size : Int)) = false := decide_eq_false (by omega)
    have e2 : decide ((t.size : Int) ≥ 1) = false := decide_eq_false (by omega)
    rw [e1, cond_false, e2, cond_false]
    have : bs t = [] := List.eq_nil_of_length_eq_zero (by omega)
    rw [this]; rfl
  · have e1 : decide ((0 : Int) < (t.size : Int)) = true := decide_eq_true (by omega)
    obtain ⟨c, r, hc⟩ : ∃ c r, bs t = c :: r := by
      cases hq : bs t with
      | nil => rw [hq] at hlen; simp at hlen; omega
      | cons c r => exact ⟨c, r, rfl⟩
    have hb : bt t (0 : Int) = (c : Int) := by
      have := bt_bs t 0
      rw [hc] at this
      exact this
    have hr := rName_l0 (k + 1) t ht (t.size - 1) k 1 rfl (by omega) (by omega) (by omega)
    rw [e1, cond_true, ck_pos (show (0 : Int) ≤ 0 ∧ (0 : Int) < (t.size : Int) from ⟨by omega, by omega⟩), hb, rletter, Option.bind_some]
    have e5 : IntKind.i64.wrap (0 + 1) = ((1 : Nat) : Int) := by decide
    simp only [beq_self_eq_true, cond_true, r4_Name_j1, e5]
    rw [hr, hc]
    rw [hc] at hlen
    simp only [nameOk, List.all_cons, List.drop_one, List.tail_cons, hlen]
    cases letterN c with
    | true => simp
    | false => simp
theorem bif_false_some (b : Bool) {x : Option Bool} {y : Bool} (h : x = some y) : (bif b then x else some false) = some (b && y) := by
  cases b <;> simp [h]
theorem shape_ok (K : Nat) (n : aNd) (hn : n.Name.size < K ∧ n.Name.size ≤ 9223372036854775807) : r4_shape K n = some (decide (Shape n)) := by
  have hsame : Arr4.same n.S ⟨0, 0, 0, 0⟩ = decide (n.S = z4) := z4_same n.S
  have hname : (n.Name.toList == (noB).toList) = decide (n.Name = noB) := beqB _ _
  have hj0 : r4_shape K n = r4_shape_j0 K (!decide (n.S = z4)) (decide (n.Lo ≠ 0) || decide (n.Hi ≠ 0)) n := by
    rw [r4_shape, hsame]
    have e1 : (n.Lo != 0) = decide (n.Lo ≠ 0) := by rw [Bool.eq_iff_iff, bne_iff_ne, decide_eq_true_eq]
    have e2 : (n.Hi != 0) = decide (n.Hi ≠ 0) := by rw [Bool.eq_iff_iff, bne_iff_ne, decide_eq_true_eq]
    rw [e1, e2]
    cases decide (n.Lo ≠ 0) <;> rfl
  have hgoal : ∀ {b : Bool}, (b = true ↔ Shape n) → some b = some (decide (Shape n)) := fun h => by
    congr 1
    rw [Bool.eq_iff_iff, h, decide_eq_true_eq]
  have hll : ((n.L.length : Int) == 0) = decide (n.L = []) := len_nil n.L
  rw [hj0, r4_shape_j0, hname, hll]
  by_cases h1 : n.Op = 1
  · rw [show (n.Op == 1) = true by simpa using h1, cond_true]
    rw [bif_false_some _ (bif_false_some _ (bif_false_some _ rfl))]
    refine hgoal ?_
    simp only [Bool.not_not, Bool.and_eq_true, decide_eq_true_eq, Bool.not_eq_true', Bool.or_eq_false_iff, decide_eq_false_iff_not, Decidable.not_not]
    constructor
    · rintro ⟨a, ⟨b, c⟩, d, e⟩; exact .inr (.inr (.inr (.inr ⟨h1, a, e, b, c, d⟩)))
    · intro h
      rcases h with h | h | h | h | h
      · omega
      · omega
      · omega
      · omega
      · exact ⟨h.2.1, ⟨h.2.2.2.1, h.2.2.2.2.1⟩, h.2.2.2.2.2, h.2.2.1⟩
  rw [show (n.Op == 1) = false by simpa using h1, cond_false]
  by_cases h2 : n.Op = 2
  · rw [show (n.Op == 2) = true by simpa using h2, cond_true]
    rw [bif_false_some _ (bif_false_some _ (bif_false_some _ rfl))]
    refine hgoal ?_
    simp only [Bool.not_not, Bool.and_eq_true, decide_eq_true_eq, Bool.not_eq_true', Bool.or_eq_false_iff, decide_eq_false_iff_not, Decidable.not_not]
    constructor
    · rintro ⟨a, ⟨b, c⟩, d, e⟩; exact .inl ⟨h2, a, e, b, c, d⟩
    · intro h
      rcases h with h | h | h | h | h
      · exact ⟨h.2.1, ⟨h.2.2.2.1, h.2.2.2.2.1⟩, h.2.2.2.2.2, h.2.2.1⟩
      · omega
      · omega
      · omega
      · omega
  rw [show (n.Op == 2) = false by simpa using h2, cond_false]
  have hrow : n.Op = 3 ∨ n.Op = 4 → r4_shape_j1 K (!decide (n.S = z4)) (decide (n.Lo ≠ 0) || decide (n.Hi ≠ 0)) (!decide (n.Name = noB)) n true = some (decide (Shape n)) := by
    intro h34
    rw [r4_shape_j1, cond_true]
    rw [bif_false_some _ (bif_false_some _ (bif_false_some _ rfl))]
    refine hgoal ?_
    simp only [Bool.not_not, Bool.and_eq_true, decide_eq_true_eq, Bool.not_eq_true', Bool.or_eq_false_iff, decide_eq_false_iff_not, Decidable.not_not]
    constructor
    · rintro ⟨a, ⟨b, c⟩, d, e⟩; exact .inr (.inr (.inl ⟨h34, a, by omega, b, c, d⟩))
    · intro h
      rcases h with h | h | h | h | h
      · omega
      · omega
      · exact ⟨h.2.1, ⟨h.2.2.2.1, h.2.2.2.2.1⟩, h.2.2.2.2.2, by omega⟩
      · omega
      · omega
  by_cases h3 : n.Op = 3
  · rw [show (n.Op == 3) = true by simpa using h3, cond_true]; exact hrow (.inl h3)
  rw [show (n.Op == 3) = false by simpa using h3, cond_false]
  by_cases h4 : n.Op = 4
  · rw [show (n.Op == 4) = true by simpa using h4]; exact hrow (.inr h4)
  rw [show (n.Op == 4) = false by simpa using h4, r4_shape_j1, cond_false]
  by_cases h5 : n.Op = 5
  · rw [show (n.Op == 5) = true by simpa using h5, cond_true]
    have hj2 : ∀ b : Bool, r4_shape_j2 K (!decide (n.S = z4)) (!decide (n.Name = noB)) b n = some (decide (n.S = z4) && (decide (n.Name = noB) && (decide (n.L.length = 1) && (decide (n.Lo ≥ 0) && (decide (n.Lo ≤ 4096) && b))))) := fun b => by
      rw [r4_shape_j2, Bool.not_not, Bool.not_not]
      have e1 : ((n.L.length : Int) == 1) = decide (n.L.length = 1) := by rw [Bool.eq_iff_iff, beq_iff_eq, decide_eq_true_eq]; omega
      rw [e1]
      rw [bif_false_some _ (bif_false_some _ (bif_false_some _ (bif_false_some _ (bif_false_some _ rfl))))]
    have hsh : ∀ b : Bool, (b = true ↔ (n.Hi = -1 ∨ (1 ≤ n.Hi ∧ n.Lo ≤ n.Hi ∧ n.Hi ≤ 4096))) → r4_shape_j2 K (!decide (n.S = z4)) (!decide (n.Name = noB)) b n = some (decide (Shape n)) := fun b hb => by
      rw [hj2]
      refine hgoal ?_
      simp only [Bool.and_eq_true, decide_eq_true_eq, hb]
      constructor
      · rintro ⟨a, c, d, e, f, g⟩; exact .inr (.inl ⟨h5, a, d, c, e, f, g⟩)
      · intro h
        rcases h with h | h | h | h | h
        · omega
        · exact ⟨h.2.1, h.2.2.2.1, h.2.2.1, h.2.2.2.2.1, h.2.2.2.2.2.1, h.2.2.2.2.2.2⟩
        · omega
        · omega
        · omega
    by_cases c1 : n.Hi = -1
    · rw [show (n.Hi == -1) = true by simpa using c1, cond_true]; exact hsh true (by simp [c1])
    rw [show (n.Hi == -1) = false by simpa using c1, cond_false]
    by_cases c2 : n.Hi ≥ 1
    · rw [decide_eq_true c2, cond_true]
      by_cases c3 : n.Hi ≤ 4096
      · rw [decide_eq_true c3, cond_true]; exact hsh _ (by simp only [decide_eq_true_eq]; omega)
      · rw [decide_eq_false c3, cond_false]; exact hsh false (by simp only [Bool.false_eq_true, false_iff]; omega)
    · rw [decide_eq_false c2, cond_false]; exact hsh false (by simp only [Bool.false_eq_true, false_iff]; omega)
  rw [show (n.Op == 5) = false by simpa using h5, cond_false]
  by_cases h6 : n.Op = 6
  · rw [show (n.Op == 6) = true by simpa using h6, cond_true, rName_ok K _ hn.1 hn.2, Option.bind_some, hll]
    rw [bif_false_some _ (bif_false_some _ (bif_false_some _ rfl))]
    refine hgoal ?_
    simp only [Bool.not_not, Bool.and_eq_true, decide_eq_true_eq, Bool.not_eq_true', Bool.or_eq_false_iff, decide_eq_false_iff_not, Decidable.not_not]
    constructor
    · rintro ⟨a, ⟨b, c⟩, d, e⟩; exact .inr (.inr (.inr (.inl ⟨h6, a, e, b, c, d⟩)))
    · intro h
      rcases h with h | h | h | h | h
      · omega
      · omega
      · omega
      · exact ⟨h.2.1, ⟨h.2.2.2.1, h.2.2.2.2.1⟩, h.2.2.2.2.2, h.2.2.1⟩
      · omega
  rw [show (n.Op == 6) = false by simpa using h6, cond_false]
  refine hgoal ?_
  simp only [Bool.false_eq_true, false_iff]
  intro h
  rcases h with h | h | h | h | h <;> omega
end Go.Rv
namespace Go.Rv
inductive WkF (l : List aNd) : Nat → List Int → List Int → Prop
  | nil (b : Nat) : WkF l b [] []
  | cons {b k : Nat} {n : aNd} {ks w1 w2 : List Int} (hk : k < b) (hn : l[k]? = some n) (h1 : WkF l k n.L w1) (h2 : WkF l b ks w2) : WkF l b ((k : Int) :: ks) ((w1 ++ [(k : Int)]) ++ w2)
theorem walk_l0 (K : Nat) (l : List aNd) (hl : l.length ≤ 1024) (at_ : Nat) (hat : at_ < l.length) (hL : l[at_].L.length ≤ 9223372036854775807)
    (rc : List aNd → Int → List Int → Option (List Int × Bool))
    (hrc : ∀ (k : Nat), k < at_ → ∀ seen : List Int, seen.length ≤ l.length + at_ → ∃ x b, rc l (k : Int) seen = some (x, b) ∧ x.length ≤ l.length + at_ ∧ (b = true → ∃ w n, l[k]? = some n ∧ WkF l k n.L w ∧ x = seen ++ w ++ [(k : Int)])) :
    ∀ (m k i : Nat) (seen : List Int), l[at_].L.length - i = m → i ≤ l[at_].L.length → m < k → seen.length ≤ l.length + at_ →
      ∃ x b, r4_walk_l0 K rc k l (at_ : Int) (i : Int) seen = some (x, b) ∧ x.length ≤ l.length + at_ + 1 ∧ (b = true → ∃ w, WkF l at_ (l[at_].L.drop i) w ∧ x = seen ++ w ++ [(at_ : Int)]) := by
  intro m
  induction m with
  | zero =>
    intro k i seen hm hi hk hs
    obtain ⟨k, rfl⟩ : ∃ k', k = k' + 1 := ⟨k - 1, by omega⟩
    rw [r4_walk_l0]
    dsimp only
    rw [geti_nat hat, Option.bind_some, show decide ((i : Int) < (l[at_].L.length : Int)) = false from decide_eq_false (by omega), cond_false, ck_pos (by simp only [List.length_cons, List.length_nil]; exact roomy8 (by omega))]
    refine ⟨_, _, rfl, by simp; omega, fun _ => ⟨[], ?_, by simp⟩⟩
    rw [List.drop_eq_nil_of_le (by omega)]
    exact .nil at_
  | succ m ih =>
    intro k i seen hm hi hk hs
    obtain ⟨k, rfl⟩ : ∃ k', k = k' + 1 := ⟨k - 1, by omega⟩
    have hlt : i < l[at_].L.length := by omega
    rw [r4_walk_l0]
    dsimp only
    rw [geti_nat hat, Option.bind_some, show decide ((i : Int) < (l[at_].L.length : Int)) = true from decide_eq_true (by omega), cond_true, geti_nat hlt, Option.bind_some]
    by_cases h1 : l[at_].L[i] < 0
    · rw [decide_eq_true h1, cond_true, r4_walk_j1]
      exact ⟨_, _, rfl, by omega, fun h => by cases h⟩
    rw [decide_eq_false h1, cond_false]
    by_cases h2 : l[at_].L[i] ≥ (at_ : Int)
    · rw [decide_eq_true h2, cond_true, r4_walk_j1]
      exact ⟨_, _, rfl, by omega, fun h => by cases h⟩
    rw [decide_eq_false h2, cond_false]
    obtain ⟨q, hq⟩ : ∃ q : Nat, l[at_].L[i] = (q : Int) := ⟨l[at_].L[i].toNat, by omega⟩
    rw [hq] at h2
    obtain ⟨x, b, e1, hx, hb⟩ := hrc q (by omega) seen hs
    rw [hq, e1, Option.bind_some]
    cases b with
    | false =>
      simp only [Bool.not_false, cond_true]
      exact ⟨_, _, rfl, by omega, fun h => by cases h⟩
    | true =>
      simp only [Bool.not_true, cond_false]
      rw [w64s (n := i) (by omega)]
      obtain ⟨w1, n, hn, hw1, rfl⟩ := hb rfl
      obtain ⟨y, b, e2, hy, hb2⟩ := ih k (i + 1) _ (by omega) (by omega) (by omega) hx
      refine ⟨y, b, e2, hy, fun h => ?_⟩
      obtain ⟨w2, hw2, rfl⟩ := hb2 h
      refine ⟨(w1 ++ [(q : Int)]) ++ w2, ?_, by simp only [List.append_assoc]⟩
      rw [List.drop_eq_getElem_cons hlt, hq]
      exact .cons (by omega) hn hw1 hw2
theorem walk_ok (K : Nat) (hK : 1100 ≤ K) (l : List aNd) (hl : l.length ≤ 1024) (hn : NodesOk K l) : ∀ (n at_ : Nat), at_ < n → (hat : at_ < l.length) → ∀ seen : List Int, seen.length ≤ l.length + at_ + 1 →
    ∃ x b, r4_walk_r K n l (at_ : Int) seen = some (x, b) ∧ x.length ≤ l.length + at_ + 1 ∧ (b = true → ∃ w, WkF l at_ l[at_].L w ∧ x = seen ++ w ++ [(at_ : Int)]) := by
  intro n
  induction n with
  | zero => intro at_ h; omega
  | succ n ih =>
    intro at_ hlt hat seen hs
    rw [r4_walk_r, r4_walk_b]
    by_cases h1 : l.length ≤ seen.length
    · rw [show decide ((seen.length : Int) ≥ (l.length : Int)) = true from decide_eq_true (by omega), cond_true]
      exact ⟨_, _, rfl, hs, fun h => by cases h⟩
    · rw [show decide ((seen.length : Int) ≥ (l.length : Int)) = false from decide_eq_false (by omega), cond_false]
      have hnn := hn _ (List.getElem_mem hat)
      have := walk_l0 K l hl at_ hat hnn.2.2 (r4_walk_r K n) (fun k hk seen hs => by
        by_cases hs2 : seen.length ≤ l.length + k + 1
        · obtain ⟨x, b, e1, h2, h3⟩ := ih k (by omega) (by omega) seen hs2
          refine ⟨x, b, e1, by omega, fun hb => ?_⟩
          obtain ⟨w, hw, hx⟩ := h3 hb
          exact ⟨w, l[k], List.getElem?_eq_getElem (by omega), hw, hx⟩
        · obtain ⟨n, rfl⟩ : ∃ n', n = n' + 1 := ⟨n - 1, by omega⟩
          rw [r4_walk_r, r4_walk_b, show decide ((seen.length : Int) ≥ (l.length : Int)) = true from decide_eq_true (by omega), cond_true]
          exact ⟨_, _, rfl, hs, fun h => by cases h⟩) l[at_].L.length K 0 seen (by omega) (by omega) (by omega) (by omega)
      obtain ⟨x, b, e1, h2, h3⟩ := this
      exact ⟨x, b, e1, h2, by simpa using h3⟩
def rng (a n : Nat) : List Int := (List.range' a n).map Int.ofNat
theorem rng_len (a n : Nat) : (rng a n).length = n := by simp [rng]
theorem rng_add (a m n : Nat) : rng a (m + n) = rng a m ++ rng (a + m) n := by
  simp only [rng, ← List.map_append, List.range'_append_1]
theorem rng_one (a : Nat) : rng a 1 = [(a : Int)] := rfl
theorem rng_split {a n : Nat} {x y : List Int} (h : x ++ y = rng a n) : x = rng a x.length ∧ y = rng (a + x.length) y.length := by
  have hn : n = x.length + y.length := by rw [← rng_len a n, ← h, List.length_append]
  rw [hn, rng_add] at h
  have h1 := congrArg (List.take x.length) h
  have h2 := congrArg (List.drop x.length) h
  have hl := rng_len a x.length
  rw [List.take_left, List.take_append_of_le_length (by omega), List.take_of_length_le (by omega)] at h1
  rw [List.drop_left, List.drop_append_of_le_length (by omega), List.drop_of_length_le (by omega), List.nil_append] at h2
  exact ⟨h1, h2⟩
theorem wk_tree (l : List aNd) (hs : ∀ n ∈ l, Shape n) {b : Nat} {ks w : List Int} (h : WkF l b ks w) : ∀ a, w = rng a w.length → ∃ f : Pt, f.wf false ∧ f.roots a = ks ∧ f.sz = w.length ∧ ∀ j x, (f.flat a)[j]? = some x → l[a + j]? = some x := by
  induction h with
  | nil => intro a _; exact ⟨.nil, trivial, rfl, rfl, by simp [Pt.flat]⟩
  | @cons b k n ks w1 w2 hk hn _ _ ih1 ih2 =>
    intro a hw
    obtain ⟨h1, h2⟩ := rng_split (x := w1 ++ [(k : Int)]) (y := w2) hw
    rw [List.length_append, List.length_singleton] at h1 h2
    obtain ⟨h3, h4⟩ := rng_split (x := w1) (y := [(k : Int)]) h1
    have hka : k = a + w1.length := by
      rw [List.length_singleton, rng_one] at h4
      simp only [List.cons.injEq, and_true] at h4
      omega
    obtain ⟨f, hf, hfr, hfs, hfl⟩ := ih1 a h3
    obtain ⟨g, hg, hgr, hgs, hgl⟩ := ih2 (a + (w1.length + 1)) h2
    obtain ⟨t, ht, htf, hts⟩ := node_tree (hs n (List.mem_of_getElem? hn)) hf a hfr
    have hsz : t.sz = w1.length + 1 := by rw [hts, hfs]
    refine ⟨.cons t g, ⟨ht, hg⟩, ?_, ?_, ?_⟩
    · simp only [Pt.roots, hsz, hgr]
      congr 1
      omega
    · simp only [Pt.sz, hsz, hgs, List.length_append, List.length_singleton]
    · intro j x hx
      simp only [Pt.flat, hsz] at hx
      have htl : (t.flat a).length = w1.length + 1 := by rw [Pt.flat_len, hsz]
      by_cases hj : j < w1.length + 1
      · rw [List.getElem?_append_left (by omega), htf] at hx
        have hfl' : (f.flat a).length = w1.length := by rw [Pt.flat_len, hfs]
        by_cases hj2 : j < w1.length
        · rw [List.getElem?_append_left (by omega)] at hx
          exact hfl j x hx
        · have hje : j = w1.length := by omega
          rw [List.getElem?_append_right (by omega), hfl', hje, Nat.sub_self] at hx
          simp only [List.getElem?_cons_zero, Option.some.injEq] at hx
          subst hx
          rw [hje, ← hka]
          exact hn
      · rw [List.getElem?_append_right (by omega), htl] at hx
        have := hgl _ x hx
        rwa [show a + (w1.length + 1) + (j - (w1.length + 1)) = a + j by omega] at this
theorem walk_flat (K : Nat) (hK : 1100 ≤ K) (l : List aNd) (hl : l.length ≤ 1024) : ∀ (t : Pt),
    (t.wf true → ∀ (a n : Nat) (seen : List Int), a + t.sz ≤ n → a + t.sz ≤ l.length → seen.length = a → (∀ j x, (t.flat a)[j]? = some x → l[a + j]? = some x) →
      r4_walk_r K n l (((a + t.sz : Nat) : Int) - 1) seen = some (seen ++ rng a t.sz, true)) ∧
    (t.wf false → ∀ (a n at_ : Nat) (hat : at_ < l.length) (seen pre post : List Int) (k : Nat), a + t.sz ≤ at_ → at_ ≤ n → seen.length = a → l[at_].L = pre ++ t.roots a ++ post → l[at_].L.length ≤ 1024 → t.len < k → (∀ j x, (t.flat a)[j]? = some x → l[a + j]? = some x) →
      r4_walk_l0 K (r4_walk_r K n) k l (at_ : Int) (pre.length : Int) seen = r4_walk_l0 K (r4_walk_r K n) (k - t.len) l (at_ : Int) ((pre.length + t.len : Nat) : Int) (seen ++ rng a t.sz)) := by
  intro t
  -- a node over a row of kids
  have node : ∀ (f : Pt) (nd : aNd) (a n : Nat) (seen : List Int), f.wf false → (f.wf false → ∀ (a n at_ : Nat) (hat : at_ < l.length) (seen pre post : List Int) (k : Nat), a + f.sz ≤ at_ → at_ ≤ n → seen.length = a → l[at_].L = pre ++ f.roots a ++ post → l[at_].L.length ≤ 1024 → f.len < k → (∀ j x, (f.flat a)[j]? = some x → l[a + j]? = some x) →
      r4_walk_l0 K (r4_walk_r K n) k l (at_ : Int) (pre.length : Int) seen = r4_walk_l0 K (r4_walk_r K n) (k - f.len) l (at_ : Int) ((pre.length + f.len : Nat) : Int) (seen ++ rng a f.sz)) →
      nd.L = f.roots a → a + (f.sz + 1) ≤ n → a + (f.sz + 1) ≤ l.length → seen.length = a → (∀ j x, (f.flat a ++ [nd])[j]? = some x → l[a + j]? = some x) →
      r4_walk_r K n l (((a + (f.sz + 1) : Nat) : Int) - 1) seen = some (seen ++ rng a (f.sz + 1), true) := by
    intro f nd a n seen hf hloop hL hn hle hs hseg
    obtain ⟨n, rfl⟩ : ∃ n', n = n' + 1 := ⟨n - 1, by omega⟩
    have hat : a + f.sz < l.length := by omega
    have hfl : (f.flat a).length = f.sz := Pt.flat_len f a
    have hnd : l[a + f.sz] = nd := by
      have := hseg f.sz nd (by rw [List.getElem?_append_right (by omega), hfl, Nat.sub_self]; rfl)
      rw [List.getElem?_eq_getElem hat] at this
      exact Option.some.inj this
    have hlen := len_sz f hf
    have hLl : l[a + f.sz].L.length = f.len := by rw [hnd, hL, Pt.roots_len]
    rw [r4_walk_r, r4_walk_b, show decide ((seen.length : Int) ≥ (l.length : Int)) = false from decide_eq_false (by omega), cond_false]
    rw [show (((a + (f.sz + 1) : Nat) : Int) - 1) = ((a + f.sz : Nat) : Int) by omega]
    have h1 := hloop hf a n (a + f.sz) hat seen [] [] K (by omega) (by omega) hs (by rw [hnd, hL]; simp) (by omega) (by omega) (fun j x hj => hseg j x (by
      have : j < (f.flat a).length := (List.getElem?_eq_some_iff.1 hj).1
      rw [List.getElem?_append_left this]; exact hj))
    rw [show (0 : Int) = ((([] : List Int).length : Nat) : Int) from rfl, h1]
    obtain ⟨k, hk⟩ : ∃ k', K - f.len = k' + 1 := ⟨K - f.len - 1, by omega⟩
    rw [hk, r4_walk_l0]
    dsimp only
    rw [geti_nat hat, Option.bind_some, hLl]
    rw [show decide (((([] : List Int).length + f.len : Nat) : Int) < (f.len : Int)) = false from decide_eq_false (by simp), cond_false, ck_pos (by simp only [List.length_cons, List.length_nil, List.length_append, rng_len]; exact roomy8 (by omega)), rng_add, rng_one, List.append_assoc]
  have leaf : ∀ (nd : aNd) (a n : Nat) (seen : List Int), nd.L = [] → a + 1 ≤ n → a + 1 ≤ l.length → seen.length = a → (∀ j x, [nd][j]? = some x → l[a + j]? = some x) → r4_walk_r K n l (((a + 1 : Nat) : Int) - 1) seen = some (seen ++ rng a 1, true) := by
    intro nd a n seen hL hn hle hs hseg
    exact node .nil nd a n seen trivial (fun _ a n at_ hat seen pre post k _ _ _ _ _ _ _ => by simp [Pt.len, Pt.sz, rng]) hL hn hle hs (by simpa [Pt.flat] using hseg)
  induction t with
  | empty => exact ⟨fun _ a n seen h1 h2 h3 h4 => leaf _ a n seen rfl h1 h2 h3 h4, fun h => h.elim⟩
  | set s => exact ⟨fun _ a n seen h1 h2 h3 h4 => leaf _ a n seen rfl h1 h2 h3 h4, fun h => h.elim⟩
  | ref nm => exact ⟨fun _ a n seen h1 h2 h3 h4 => leaf _ a n seen rfl h1 h2 h3 h4, fun h => h.elim⟩
  | cat f ih => exact ⟨fun h a n seen h1 h2 h3 h4 => node f _ a n seen h.2 ih.2 rfl h1 h2 h3 h4, fun h => h.elim⟩
  | alt f ih => exact ⟨fun h a n seen h1 h2 h3 h4 => node f _ a n seen h.2 ih.2 rfl h1 h2 h3 h4, fun h => h.elim⟩
  | nil => exact ⟨fun h => h.elim, fun _ a n at_ hat seen pre post k _ _ _ _ _ _ _ => by simp [Pt.len, Pt.sz, rng]⟩
  | rep t lo hi ih =>
    refine ⟨fun h a n seen h1 h2 h3 h4 => ?_, fun h => h.elim⟩
    have hcons : (Pt.cons t .nil).wf false := ⟨h.1, trivial⟩
    have := node (.cons t .nil) ⟨5, z4, [((a + t.sz : Nat) : Int) - 1], lo, hi, noB⟩ a n seen hcons (fun _ a n at_ hat seen pre post k g1 g2 g3 g4 g5 g6 g7 => by
      simp only [Pt.sz, Nat.add_zero] at g1
      simp only [Pt.flat, List.append_nil] at g7
      simp only [Pt.len] at g6 ⊢
      simp only [Pt.sz, Nat.add_zero]
      simp only [Pt.roots] at g4
      obtain ⟨k, rfl⟩ : ∃ k', k = k' + 1 := ⟨k - 1, by omega⟩
      have hlt : pre.length < l[at_].L.length := by rw [g4]; simp
      have hget : l[at_].L[pre.length] = ((a + t.sz : Nat) : Int) - 1 := by
        simp only [g4, List.append_assoc]
        simp
      have hts := wf_sz h.1
      rw [r4_walk_l0]
      dsimp only
      rw [geti_nat hat, Option.bind_some, show decide ((pre.length : Int) < (l[at_].L.length : Int)) = true from decide_eq_true (by omega), cond_true, geti_nat hlt, Option.bind_some, hget, show decide ((((a + t.sz : Nat) : Int) - 1) < 0) = false from decide_eq_false (by omega), cond_false, show decide ((((a + t.sz : Nat) : Int) - 1) ≥ (at_ : Int)) = false from decide_eq_false (by omega), cond_false, ih.1 h.1 a n seen (by omega) (by omega) g3 g7, Option.bind_some]
      simp only [Bool.not_true, cond_false]
      rw [w64s (n := pre.length) (by omega)]
      rfl) (by simp [Pt.roots]) (by simpa [Pt.sz] using h1) (by simpa [Pt.sz] using h2) h3 (by simpa [Pt.flat] using h4)
    simpa [Pt.sz] using this
  | cons t f iht ihf =>
    refine ⟨fun h => h.elim, fun h a n at_ hat seen pre post k g1 g2 g3 g4 g5 g6 g7 => ?_⟩
    simp only [Pt.sz] at g1
    simp only [Pt.flat] at g7
    simp only [Pt.len] at g6
    simp only [Pt.roots] at g4
    obtain ⟨k, rfl⟩ : ∃ k', k = k' + 1 := ⟨k - 1, by omega⟩
    have hlt : pre.length < l[at_].L.length := by rw [g4]; simp
    have hget : l[at_].L[pre.length] = ((a + t.sz : Nat) : Int) - 1 := by
      simp only [g4, List.append_assoc]
      simp
    have hts := wf_sz h.1
    have htl : (t.flat a).length = t.sz := Pt.flat_len t a
    rw [r4_walk_l0]
    dsimp only
    rw [geti_nat hat, Option.bind_some, show decide ((pre.length : Int) < (l[at_].L.length : Int)) = true from decide_eq_true (by omega), cond_true, geti_nat hlt, Option.bind_some, hget, show decide ((((a + t.sz : Nat) : Int) - 1) < 0) = false from decide_eq_false (by omega), cond_false, show decide ((((a + t.sz : Nat) : Int) - 1) ≥ (at_ : Int)) = false from decide_eq_false (by omega), cond_false, iht.1 h.1 a n seen (by omega) (by omega) g3 (fun j x hj => g7 j x (by
      have : j < (t.flat a).length := (List.getElem?_eq_some_iff.1 hj).1
      rw [List.getElem?_append_left this]; exact hj)), Option.bind_some]
    simp only [Bool.not_true, cond_false]
    rw [w64s (n := pre.length) (by omega)]
    have h2 := ihf.2 h.2 (a + t.sz) n at_ hat (seen ++ rng a t.sz) (pre ++ [((a + t.sz : Nat) : Int) - 1]) post k (by omega) g2 (by rw [List.length_append, rng_len, g3]) (by rw [g4]; simp only [List.append_assoc, List.cons_append, List.nil_append]) g5 (by omega) (fun j x hj => by
      have := g7 (t.sz + j) x (by rw [List.getElem?_append_right (by omega), htl, Nat.add_sub_cancel_left]; exact hj)
      rwa [← Nat.add_assoc] at this)
    rw [show (pre ++ [((a + t.sz : Nat) : Int) - 1]).length = pre.length + 1 by simp] at h2
    rw [h2]
    simp only [Pt.len, Pt.sz, rng_add, List.append_assoc]
    rw [show k + 1 - (f.len + 1) = k - f.len by omega, show pre.length + 1 + f.len = pre.length + (f.len + 1) by omega]
theorem flat_shape : ∀ (t : Pt) (b : Bool), t.wf b → ∀ n, ∀ x ∈ t.flat n, Shape x := by
  intro t
  induction t with
  | empty => intro b h n x hx; simp [Pt.flat] at hx; subst hx; simp [Shape]
  | set s =>
    intro b h n x hx
    cases b with
    | false => exact h.elim
    | true => simp [Pt.flat] at hx; subst hx; exact .inl ⟨rfl, h, rfl, rfl, rfl, rfl⟩
  | ref nm =>
    intro b h n x hx
    cases b with
    | false => exact h.elim
    | true => simp [Pt.flat] at hx; subst hx; exact .inr (.inr (.inr (.inl ⟨rfl, rfl, rfl, rfl, rfl, by rw [bs_toB h.2]; exact h.1⟩)))
  | rep t lo hi ih =>
    intro b h n x hx
    cases b with
    | false => exact h.elim
    | true =>
      simp only [Pt.flat, List.mem_append, List.mem_singleton] at hx
      rcases hx with hx | rfl
      · exact ih true h.1 n x hx
      · exact .inr (.inl ⟨rfl, rfl, rfl, rfl, h.2⟩)
  | cat f ih =>
    intro b h n x hx
    cases b with
    | false => exact h.elim
    | true =>
      simp only [Pt.flat, List.mem_append, List.mem_singleton] at hx
      rcases hx with hx | rfl
      · exact ih false h.2 n x hx
      · exact .inr (.inr (.inl ⟨.inl rfl, rfl, by rw [Pt.roots_len]; exact h.1, rfl, rfl, rfl⟩))
  | alt f ih =>
    intro b h n x hx
    cases b with
    | false => exact h.elim
    | true =>
      simp only [Pt.flat, List.mem_append, List.mem_singleton] at hx
      rcases hx with hx | rfl
      · exact ih false h.2 n x hx
      · exact .inr (.inr (.inl ⟨.inr rfl, rfl, by rw [Pt.roots_len]; exact h.1, rfl, rfl, rfl⟩))
  | nil => intro b h n x hx; simp [Pt.flat] at hx
  | cons t f iht ihf =>
    intro b h n x hx
    cases b with
    | true => exact h.elim
    | false =>
      simp only [Pt.flat, List.mem_append] at hx
      rcases hx with hx | hx
      · exact iht true h.1 n x hx
      · exact ihf false h.2 _ x hx
theorem order_l3 (K : Nat) (o : List Int) (ho : o.length ≤ 100000) : ∀ (m k i : Nat), o.length - i = m → i ≤ o.length → m < k → r4_Right_l3 K k (i : Int) o = some (decide (o.drop i = rng i (o.length - i))) := by
  intro m
  induction m with
  | zero =>
    intro k i hm hi hk
    obtain ⟨k, rfl⟩ : ∃ k', k = k' + 1 := ⟨k - 1, by omega⟩
    rw [r4_Right_l3]
    dsimp only
    rw [show decide ((i : Int) < (o.length : Int)) = false from decide_eq_false (by omega), cond_false, List.drop_eq_nil_of_le (by omega), hm]
    rfl
  | succ m ih =>
    intro k i hm hi hk
    obtain ⟨k, rfl⟩ : ∃ k', k = k' + 1 := ⟨k - 1, by omega⟩
    have h1 : i < o.length := by omega
    rw [r4_Right_l3]
    dsimp only
    rw [show decide ((i : Int) < (o.length : Int)) = true from decide_eq_true (by omega), cond_true, geti_nat h1, Option.bind_some, w64s (n := i) (by omega), ih k (i + 1) (by omega) (by omega) (by omega), List.drop_eq_getElem_cons h1, show o.length - i = 1 + (o.length - (i + 1)) by omega, rng_add, rng_one]
    by_cases he : o[i] = (i : Int)
    · have : (o[i] != (i : Int)) = false := by simpa using he
      rw [this, cond_false]
      simp only [List.cons_append, List.nil_append, List.cons.injEq, he, true_and]
    · have : (o[i] != (i : Int)) = true := by simpa using he
      rw [this, cond_true]
      simp only [List.cons_append, List.cons.injEq, he, false_and, decide_false]
theorem rright_l1 (K : Nat) (hK : 1100 ≤ K) (l : List aNd) (hl : l.length ≤ 1024) (h0 : 1 ≤ l.length) (hn : NodesOk K l) : ∀ (m k i : Nat), l.length - i = m → i ≤ l.length → m < k → (∀ j (h : j < i) (h2 : j < l.length), Shape l[j]) → r4_Right_l1 K k l (i : Int) = some (rightS l) := by
  intro m
  induction m with
  | zero =>
    intro k i hm hi hk hsh
    obtain ⟨k, rfl⟩ : ∃ k', k = k' + 1 := ⟨k - 1, by omega⟩
    have hall : ∀ n ∈ l, Shape n := fun n hmem => by
      obtain ⟨j, hj, rfl⟩ := List.getElem_of_mem hmem
      exact hsh j (by omega) hj
    rw [r4_Right_l1]
    dsimp only
    rw [show decide ((i : Int) < (l.length : Int)) = false from decide_eq_false (by omega), cond_false]
    have ew : IntKind.i64.wrap ((l.length : Int) - 1) = ((l.length - 1 : Nat) : Int) := by rw [w64 (by omega) (by omega)]; omega
    obtain ⟨x, b, e1, hx, hb⟩ := walk_ok K hK l hl hn K (l.length - 1) (by omega) (by omega) [] (by simp)
    rw [ew, r4_walk, e1, Option.bind_some]
    -- what is Right is come to
    have hback : rightS l = true → b = true ∧ x = rng 0 l.length := by
      intro hr
      obtain ⟨t, ht, htf, hts⟩ := (right_iff l).1 hr
      have hsz : t.sz = l.length := by rw [← htf, Pt.flat_len]
      have hts1 := wf_sz ht
      have := (walk_flat K hK l hl t).1 ht 0 K [] (by omega) (by omega) rfl (fun j y hj => by rw [Nat.zero_add, ← htf]; exact hj)
      rw [show (((0 + t.sz : Nat) : Int) - 1) = ((l.length - 1 : Nat) : Int) by omega, e1] at this
      simp only [Option.some.injEq, Prod.mk.injEq, List.nil_append] at this
      exact ⟨this.2, by rw [this.1, hsz]⟩
    cases b with
    | false =>
      simp only [Bool.not_false, cond_true, r4_Right_j2]
      cases hr : rightS l with
      | false => rfl
      | true => exact absurd (hback hr).1 (by simp)
    | true =>
      simp only [Bool.not_true, cond_false]
      by_cases hlen : x.length = l.length
      · rw [show ((x.length : Int) != (l.length : Int)) = false by simp; omega, cond_false]
        have h3 := order_l3 K x (by omega) x.length K 0 (by omega) (by omega) (by omega)
        rw [show ((0 : Nat) : Int) = 0 from rfl, List.drop_zero, Nat.sub_zero] at h3
        rw [h3]
        congr 1
        rw [Bool.eq_iff_iff, decide_eq_true_eq]
        constructor
        · intro ho
          obtain ⟨w, hw, hxw⟩ := hb rfl
          rw [List.nil_append] at hxw
          have ho' := ho
          rw [hxw] at ho'
          obtain ⟨h4, h5⟩ := rng_split (x := w) (y := [((l.length - 1 : Nat) : Int)]) ho'
          obtain ⟨f, hf, hfr, hfs, hfl⟩ := wk_tree l hall hw 0 h4
          obtain ⟨t, ht, htf, hts⟩ := node_tree (hall l[l.length - 1] (List.getElem_mem _)) hf 0 hfr
          have hwl : w.length = l.length - 1 := by
            have := congrArg List.length hxw
            rw [List.length_append, List.length_singleton] at this
            omega
          refine (right_iff l).2 ⟨t, ht, ?_, by omega⟩
          rw [htf]
          apply List.ext_getElem?
          intro j
          have hfll : (f.flat 0).length = l.length - 1 := by rw [Pt.flat_len, hfs, hwl]
          by_cases hj : j < l.length - 1
          · rw [List.getElem?_append_left (by omega)]
            have hj2 : j < (f.flat 0).length := by omega
            have := hfl j _ (List.getElem?_eq_getElem hj2)
            rw [Nat.zero_add] at this
            rw [this, List.getElem?_eq_getElem hj2]
          · rw [List.getElem?_append_right (by omega), hfll]
            by_cases hj2 : j = l.length - 1
            · rw [hj2, Nat.sub_self, List.getElem?_eq_getElem (show l.length - 1 < l.length by omega)]
              rfl
            · rw [List.getElem?_eq_none (by simp; omega), List.getElem?_eq_none (by omega)]
        · intro hr
          have := (hback hr).2
          rw [this, rng_len]
      · rw [show ((x.length : Int) != (l.length : Int)) = true by simp; omega, cond_true, r4_Right_j2]
        cases hr : rightS l with
        | false => rfl
        | true =>
          have := (hback hr).2
          rw [this, rng_len] at hlen
          exact absurd rfl hlen
  | succ m ih =>
    intro k i hm hi hk hsh
    obtain ⟨k, rfl⟩ : ∃ k', k = k' + 1 := ⟨k - 1, by omega⟩
    have hlt : i < l.length := by omega
    have hni := hn _ (List.getElem_mem hlt)
    rw [r4_Right_l1]
    dsimp only
    rw [show decide ((i : Int) < (l.length : Int)) = true from decide_eq_true (by omega), cond_true, geti_nat hlt, Option.bind_some, shape_ok K _ hni.1, Option.bind_some]
    by_cases hs : Shape l[i]
    · rw [decide_eq_true hs]
      simp only [Bool.not_true, cond_false]
      rw [w64s (n := i) (by omega)]
      refine ih k (i + 1) (by omega) (by omega) (by omega) (fun j hj h2 => ?_)
      by_cases hji : j = i
      · subst hji; exact hs
      · exact hsh j (by omega) h2
    · rw [decide_eq_false hs]
      simp only [Bool.not_false, cond_true]
      cases hr : rightS l with
      | false => rfl
      | true =>
        obtain ⟨t, ht, htf, hts⟩ := (right_iff l).1 hr
        exact absurd (flat_shape t true ht 0 l[i] (by rw [htf]; exact List.getElem_mem hlt)) hs
theorem rRight_ok (K : Nat) (hK : 1100 ≤ K) (l : List aNd) (hn : NodesOk K l) : r4_Right K l = some (rightS l) := by
  rw [r4_Right]
  by_cases h1 : l.length < 1
  · rw [show decide ((l.length : Int) < 1) = true from decide_eq_true (by omega), cond_true, r4_Right_j0, rightS, show decide (1 ≤ l.length) = false from decide_eq_false (by omega)]
    rfl
  · rw [show decide ((l.length : Int) < 1) = false from decide_eq_false (by omega), cond_false]
    by_cases h2 : 1024 < l.length
    · rw [show decide ((l.length : Int) > 1024) = true from decide_eq_true (by omega), cond_true, r4_Right_j0, rightS, show decide (l.length ≤ 1024) = false from decide_eq_false (by omega), Bool.and_false]
      rfl
    · rw [show decide ((l.length : Int) > 1024) = false from decide_eq_false (by omega), cond_false]
      exact rright_l1 K hK l (by omega) (by omega) hn l.length K 0 (by omega) (by omega) (by omega) (fun j h _ => by omega)
theorem nodes_need : ∀ (l : List aNd), (∀ n ∈ l, n.Name.size ≤ 9223372036854775807 ∧ n.L.length ≤ 9223372036854775807) → ∃ K, 6000 ≤ K ∧ NodesOk K l := by
  intro l
  induction l with
  | nil => intro _; exact ⟨6000, by omega, fun n hn => by simp at hn⟩
  | cons a l ih =>
    intro h
    obtain ⟨K, hK, hl⟩ := ih (fun n hn => h n (List.mem_cons_of_mem _ hn))
    have ha := h a (List.mem_cons_self ..)
    refine ⟨K + a.Name.size + a.L.length + 1, by omega, fun n hn => ?_⟩
    rcases List.mem_cons.1 hn with rfl | hn
    · exact ⟨⟨by omega, ha.1⟩, by omega, ha.2⟩
    · obtain ⟨⟨h1, h2⟩, h3, h4⟩ := hl n hn
      exact ⟨⟨by omega, h2⟩, by omega, h4⟩
end Go.Rv

/- Patterns, plainly: nodes that are Right are a tree's. -/
import Derived.Test.YtbepeoipaiahgaaRpSQ
namespace Go.Rv
/-- One row behind another. -/
def Pt.app : Pt → Pt → Pt
  | .cons t f, g => .cons t (f.app g)
  | _, g => g
theorem app_flat : ∀ (f : Pt), f.wf false → ∀ (g : Pt) (n : Nat), (f.app g).flat n = f.flat n ++ g.flat (n + f.sz) ∧ (f.app g).roots n = f.roots n ++ g.roots (n + f.sz) ∧ (f.app g).sz = f.sz + g.sz ∧ (g.wf false → (f.app g).wf false) ∧ (f.app g).len = f.len + g.len := by
  intro f
  induction f with
  | nil => intro _ g n; simp [Pt.app, Pt.flat, Pt.roots, Pt.sz, Pt.len]
  | cons t f _ ih =>
    intro h g n
    obtain ⟨h1, h2, h3, h4, h5⟩ := ih h.2 g (n + t.sz)
    refine ⟨?_, ?_, ?_, fun hg => ⟨h.1, h4 hg⟩, ?_⟩
    · simp only [Pt.app, Pt.flat, Pt.sz, h1, List.append_assoc, Nat.add_assoc]
    · simp only [Pt.app, Pt.roots, Pt.sz, h2, List.cons_append, Nat.add_assoc]
    · simp only [Pt.app, Pt.sz, h3, Nat.add_assoc]
    · simp only [Pt.app, Pt.len, h5]; omega
  | _ => intro h; exact h.elim
theorem app_split : ∀ (f : Pt), f.wf false → ∀ m, m ≤ f.len → ∃ f1 f2 : Pt, f = f1.app f2 ∧ f1.wf false ∧ f2.wf false ∧ f2.len = m := by
  intro f
  induction f with
  | nil => intro _ m hm; exact ⟨.nil, .nil, rfl, trivial, trivial, by simp [Pt.len] at hm ⊢; omega⟩
  | cons t f _ ih =>
    intro h m hm
    by_cases he : m = f.len + 1
    · exact ⟨.nil, .cons t f, rfl, trivial, h, by simp [Pt.len, he]⟩
    · simp only [Pt.len] at hm
      obtain ⟨f1, f2, h1, h2, h3, h4⟩ := ih h.2 m (by omega)
      exact ⟨.cons t f1, f2, by rw [Pt.app, ← h1], ⟨h.1, h2⟩, h3, h4⟩
  | _ => intro h; exact h.elim
theorem len_zero {f : Pt} (h : f.wf false) (h0 : f.len = 0) : f = .nil := by
  cases f with
  | nil => rfl
  | cons t g => simp [Pt.len] at h0
  | _ => exact h.elim
/-- A node over a row of kids is a tree's. -/
theorem node_tree {n : api_Node} (hs : Shape n) {f : Pt} (hf : f.wf false) (i : Nat) (hl : f.roots i = n.L) : ∃ t : Pt, t.wf true ∧ t.flat i = f.flat i ++ [n] ∧ t.sz = f.sz + 1 := by
  obtain ⟨op, s, l, lo, hi, nm⟩ := n
  have hlen : f.len = l.length := by rw [← Pt.roots_len f i, hl]
  rcases hs with ⟨h1, h2, h3, h4, h5, h6⟩ | ⟨h1, h2, h3, h4, h5⟩ | ⟨h1, h2, h3, h4, h5, h6⟩ | ⟨h1, h2, h3, h4, h5, h6⟩ | ⟨h1, h2, h3, h4, h5, h6⟩
  · simp only at h1 h2 h3 h4 h5 h6
    subst h1 h3 h4 h5 h6
    have := len_zero hf (by simpa using hlen)
    subst this
    exact ⟨.set s, h2, rfl, rfl⟩
  · simp only at h1 h2 h3 h4 h5
    subst h1 h2 h4
    cases f with
    | cons t g =>
      have := len_zero hf.2 (by simp [Pt.len] at hlen; omega)
      subst this
      refine ⟨.rep t lo hi, ⟨hf.1, h5⟩, ?_, ?_⟩
      · simp only [Pt.roots] at hl
        simp only [Pt.flat, List.append_nil, hl]
      · simp [Pt.sz]
    | nil => simp [Pt.len] at hlen; omega
    | _ => exact hf.elim
  · simp only at h1 h2 h3 h4 h5 h6
    subst h2 h4 h5 h6
    rcases h1 with h1 | h1
    · subst h1
      exact ⟨.cat f, ⟨by omega, hf⟩, by simp only [Pt.flat, hl], rfl⟩
    · subst h1
      exact ⟨.alt f, ⟨by omega, hf⟩, by simp only [Pt.flat, hl], rfl⟩
  · simp only at h1 h2 h3 h4 h5 h6
    subst h1 h2 h3 h4 h5
    have := len_zero hf (by simpa using hlen)
    subst this
    exact ⟨.ref (bs nm), ⟨h6, fun c hc => bs_lt hc⟩, by simp only [Pt.flat, toB_bs, List.nil_append], rfl⟩
  · simp only at h1 h2 h3 h4 h5 h6
    subst h1 h2 h3 h4 h5 h6
    have := len_zero hf (by simpa using hlen)
    subst this
    exact ⟨.empty, trivial, rfl, rfl⟩
theorem stk_tree : ∀ (l : List api_Node) (f : Pt) (o : List Int), f.wf false → stk (f.roots 0) f.sz l = some o → ∃ g : Pt, g.wf false ∧ g.flat 0 = f.flat 0 ++ l ∧ g.roots 0 = o := by
  intro l
  induction l with
  | nil =>
    intro f o hf h
    simp only [stk, Option.some.injEq] at h
    exact ⟨f, hf, by simp, h⟩
  | cons n l ih =>
    intro f o hf h
    rw [stk] at h
    split at h
    · rename_i hc
      obtain ⟨hs, hlen, hdrop⟩ := hc
      rw [Pt.roots_len] at hlen hdrop h
      obtain ⟨f1, f2, rfl, hf1, hf2, hf2l⟩ := app_split f hf n.L.length hlen
      obtain ⟨a1, a2, a3, a4, a5⟩ := app_flat f1 hf1 f2 0
      rw [a5, hf2l, Nat.add_sub_cancel, a2] at hdrop h
      have hr1 : (f1.roots 0).length = f1.len := Pt.roots_len f1 0
      rw [← hr1, List.drop_left] at hdrop
      rw [← hr1, List.take_left] at h
      obtain ⟨t, ht, htf, hts⟩ := node_tree hs hf2 (0 + f1.sz) hdrop
      obtain ⟨b1, b2, b3, b4, b5⟩ := app_flat f1 hf1 (.cons t .nil) 0
      have hsz : (f1.app (.cons t .nil)).sz = (f1.app f2).sz + 1 := by rw [b3, a3]; simp [Pt.sz, hts]; omega
      have hroots : (f1.app (.cons t .nil)).roots 0 = f1.roots 0 ++ [(((f1.app f2).sz : Nat) : Int)] := by
        rw [b2, a3]
        simp only [Pt.roots, hts]
        congr 2
        omega
      obtain ⟨g, hg, hgf, hgr⟩ := ih (f1.app (.cons t .nil)) o (b4 ⟨ht, trivial⟩) (by rw [hroots, hsz]; exact h)
      refine ⟨g, hg, ?_, hgr⟩
      rw [hgf, b1, a1]
      simp only [Pt.flat, List.append_nil, htf, List.append_assoc, List.cons_append, List.nil_append]
    · cases h
/-- Nodes are Right just if they are a tree's. -/
theorem right_iff (l : List api_Node) : rightS l = true ↔ ∃ t : Pt, t.wf true ∧ t.flat 0 = l ∧ t.sz ≤ 1024 := by
  constructor
  · intro h
    simp only [rightS, Bool.and_eq_true, decide_eq_true_eq] at h
    obtain ⟨⟨h1, h2⟩, h3⟩ := h
    cases ho : stk [] 0 l with
    | none => rw [ho] at h3; cases h3
    | some o =>
      rw [ho] at h3
      simp only [decide_eq_true_eq] at h3
      obtain ⟨g, hg, hgf, hgr⟩ := stk_tree l .nil o trivial ho
      simp only [Pt.flat, List.nil_append] at hgf
      have hlen : g.len = 1 := by rw [← Pt.roots_len g 0, hgr, h3]
      cases g with
      | cons t g =>
        have := len_zero hg.2 (by simp [Pt.len] at hlen; omega)
        subst this
        simp only [Pt.flat, List.append_nil] at hgf
        exact ⟨t, hg.1, hgf, by rw [← Pt.flat_len t 0, hgf]; exact h2⟩
      | nil => simp [Pt.len] at hlen
      | _ => exact hg.elim
  · rintro ⟨t, ht, rfl, hs⟩
    exact flat_right ht hs

/- The document's answer: the walk. -/
theorem rletter (K c : Nat) : raddleref04_letter K (c : Int) = some (letterN c) := sletter K c
theorem rdigit (K c : Nat) : raddleref04_digit K (c : Int) = some (isDig c) := sdigit K c
theorem rName_l0 (K : Nat) (t : ByteArray) (ht : t.size ≤ 9223372036854775807) : ∀ (m k i : Nat), t.size - i = m → i ≤ t.size → m < k → 0 < i →
    raddleref04_Name_l0 K k t (i : Int) = some (((bs t).drop i).all (fun c => letterN c || isDig c) && decide (t.size ≤ 32)) := by
  intro m
  induction m with
  | zero =>
    intro k i hm hi hk h0
    obtain ⟨k, rfl⟩ : ∃ k', k = k' + 1 := ⟨k - 1, by omega⟩
    rw [raddleref04_Name_l0]
    dsimp only
    have e1 : decide ((i : Int) < (t.size : Int)) = false := decide_eq_false (by omega)
    have e2 : decide ((t.size : Int) ≥ 1) = true := decide_eq_true (by omega)
    have e3 : decide ((t.size : Int) ≤ 32) = decide (t.size ≤ 32) := by rw [Bool.eq_iff_iff, decide_eq_true_eq, decide_eq_true_eq]; omega
    rw [e1, cond_false, e2, cond_true, e3, List.drop_eq_nil_of_le (by rw [bs_len]; omega)]
    simp
  | succ m ih =>
    intro k i hm hi hk h0
    obtain ⟨k, rfl⟩ : ∃ k', k = k' + 1 := ⟨k - 1, by omega⟩
    have hlt : i < t.size := by omega
    have hlt' : i < (bs t).length := by rw [bs_len]; exact hlt
    rw [raddleref04_Name_l0]
    dsimp only
    have e1 : decide ((i : Int) < (t.size : Int)) = true := decide_eq_true (by omega)
    have hb : bt t (i : Int) = ((bs t)[i] : Int) := by rw [bt_bs, List.getElem?_eq_getElem hlt']; rfl
    rw [e1, cond_true, ck_pos ⟨by omega, by omega⟩, hb, rletter, Option.bind_some, List.drop_eq_getElem_cons hlt', List.all_cons]
    have e4 : ((i : Int) == 0) = false := by simp; omega
    have hr := ih k (i + 1) (by omega) (by omega) (by omega) (by omega)
    rw [w64s (n := i) (by omega)]
    cases letterN (bs t)[i] with
    | true => simp only [Bool.not_true, cond_false, Bool.true_or, Bool.true_and]; exact hr
    | false =>
      simp only [Bool.not_false, cond_true, e4, cond_false, rdigit, Option.bind_some, Bool.false_or]
      cases isDig (bs t)[i] with
      | true => simp only [Bool.not_true, cond_false, Bool.true_and]; exact hr
      | false => simp only [Bool.not_false, cond_true, Bool.false_and, raddleref04_Name_j1]
theorem rName_ok (K : Nat) (t : ByteArray) (hK : t.size < K) (ht : t.size ≤ 9223372036854775807) : raddleref04_Name K t = some (nameOk (bs t)) := by
  obtain ⟨k, rfl⟩ : ∃ k', K = k' + 1 := ⟨K - 1, by omega⟩
  have hlen := bs_len t
  rw [raddleref04_Name, raddleref04_Name_l0]
  dsimp only
  by_cases h0 : t.size = 0
  · have e1 : decide ((0 : Int) < (t.size : Int)) = false := decide_eq_false (by omega)
    have e2 : decide ((t.size : Int) ≥ 1) = false := decide_eq_false (by omega)
    rw [e1, cond_false, e2, cond_false]
    have : bs t = [] := List.eq_nil_of_length_eq_zero (by omega)
    rw [this]; rfl
  · have e1 : decide ((0 : Int) < (t.size : Int)) = true := decide_eq_true (by omega)
    obtain ⟨c, r, hc⟩ : ∃ c r, bs t = c :: r := by
      cases hq : bs t with
      | nil => rw [hq] at hlen; simp at hlen; omega
      | cons c r => exact ⟨c, r, rfl⟩
    have hb : bt t (0 : Int) = (c : Int) := by
      have := bt_bs t 0
      rw [hc] at this
      exact this
    have hr := rName_l0 (k + 1) t ht (t.size - 1) k 1 rfl (by omega) (by omega) (by omega)
    rw [e1, cond_true, ck_pos (show (0 : Int) ≤ 0 ∧ (0 : Int) < (t.size : Int) from ⟨by omega, by omega⟩), hb, rletter, Option.bind_some]
    have e5 : IntKind.i64.wrap (0 + 1) = ((1 : Nat) : Int) := by decide
    simp only [beq_self_eq_true, cond_true, raddleref04_Name_j1, e5]
    rw [hr, hc]
    rw [hc] at hlen
    simp only [nameOk, List.all_cons, List.drop_one, List.tail_cons, hlen]
    cases letterN c with
    | true => simp
    | false => simp
theorem bif_false_some (b : Bool) {x : Option Bool} {y : Bool} (h : x = some y) : (bif b then x else some false) = some (b && y) := by
  cases b <;> simp [h]
theorem shape_ok (K : Nat) (n : api_Node) (hn : n.Name.size < K ∧ n.Name.size ≤ 9223372036854775807) : raddleref04_shape K n = some (decide (Shape n)) := by
  have hsame : Arr4.same n.S ⟨0, 0, 0, 0⟩ = decide (n.S = z4) := z4_same n.S
  have hname : (n.Name.toList == (noB).toList) = decide (n.Name = noB) := beqB _ _
  have hj0 : raddleref04_shape K n = raddleref04_shape_j0 K (!decide (n.S = z4)) (decide (n.Lo ≠ 0) || decide (n.Hi ≠ 0)) n := by
    rw [raddleref04_shape, hsame]
    have e1 : (n.Lo != 0) = decide (n.Lo ≠ 0) := by rw [Bool.eq_iff_iff, bne_iff_ne, decide_eq_true_eq]
    have e2 : (n.Hi != 0) = decide (n.Hi ≠ 0) := by rw [Bool.eq_iff_iff, bne_iff_ne, decide_eq_true_eq]
    rw [e1, e2]
    cases decide (n.Lo ≠ 0) <;> rfl
  have hgoal : ∀ {b : Bool}, (b = true ↔ Shape n) → some b = some (decide (Shape n)) := fun h => by
    congr 1
    rw [Bool.eq_iff_iff, h, decide_eq_true_eq]
  have hll : ((n.L.length : Int) == 0) = decide (n.L = []) := len_nil n.L
  rw [hj0, raddleref04_shape_j0, hname, hll]
  by_cases h1 : n.Op = 1
  · rw [show (n.Op == 1) = true by simpa using h1, cond_true]
    rw [bif_false_some _ (bif_false_some _ (bif_false_some _ rfl))]
    refine hgoal ?_
    simp only [Bool.not_not, Bool.and_eq_true, decide_eq_true_eq, Bool.not_eq_true', Bool.or_eq_false_iff, decide_eq_false_iff_not, Decidable.not_not]
    constructor
    · rintro ⟨a, ⟨b, c⟩, d, e⟩; exact .inr (.inr (.inr (.inr ⟨h1, a, e, b, c, d⟩)))
    · intro h
      rcases h with h | h | h | h | h
      · omega
      · omega
      · omega
      · omega
      · exact ⟨h.2.1, ⟨h.2.2.2.1, h.2.2.2.2.1⟩, h.2.2.2.2.2, h.2.2.1⟩
  rw [show (n.Op == 1) = false by simpa using h1, cond_false]
  by_cases h2 : n.Op = 2
  · rw [show (n.Op == 2) = true by simpa using h2, cond_true]
    rw [bif_false_some _ (bif_false_some _ (bif_false_some _ rfl))]
    refine hgoal ?_
    simp only [Bool.not_not, Bool.and_eq_true, decide_eq_true_eq, Bool.not_eq_true', Bool.or_eq_false_iff, decide_eq_false_iff_not, Decidable.not_not]
    constructor
    · rintro ⟨a, ⟨b, c⟩, d, e⟩; exact .inl ⟨h2, a, e, b, c, d⟩
    · intro h
      rcases h with h | h | h | h | h
      · exact ⟨h.2.1, ⟨h.2.2.2.1, h.2.2.2.2.1⟩, h.2.2.2.2.2, h.2.2.1⟩
      · omega
      · omega
      · omega
      · omega
  rw [show (n.Op == 2) = false by simpa using h2, cond_false]
  have hrow : n.Op = 3 ∨ n.Op = 4 → raddleref04_shape_j1 K (!decide (n.S = z4)) (decide (n.Lo ≠ 0) || decide (n.Hi ≠ 0)) (!decide (n.Name = noB)) n true = some (decide (Shape n)) := by
    intro h34
    rw [raddleref04_shape_j1, cond_true]
    rw [bif_false_some _ (bif_false_some _ (bif_false_some _ rfl))]
    refine hgoal ?_
    simp only [Bool.not_not, Bool.and_eq_true, decide_eq_true_eq, Bool.not_eq_true', Bool.or_eq_false_iff, decide_eq_false_iff_not, Decidable.not_not]
    constructor
    · rintro ⟨a, ⟨b, c⟩, d, e⟩; exact .inr (.inr (.inl ⟨h34, a, by omega, b, c, d⟩))
    · intro h
      rcases h with h | h | h | h | h
      · omega
      · omega
      · exact ⟨h.2.1, ⟨h.2.2.2.1, h.2.2.2.2.1⟩, h.2.2.2.2.2, by omega⟩
      · omega
      · omega
  by_cases h3 : n.Op = 3
  · rw [show (n.Op == 3) = true by simpa using h3, cond_true]; exact hrow (.inl h3)
  rw [show (n.Op == 3) = false by simpa using h3, cond_false]
  by_cases h4 : n.Op = 4
  · rw [show (n.Op == 4) = true by simpa using h4]; exact hrow (.inr h4)
  rw [show (n.Op == 4) = false by simpa using h4, raddleref04_shape_j1, cond_false]
  by_cases h5 : n.Op = 5
  · rw [show (n.Op == 5) = true by simpa using h5, cond_true]
    have hj2 : ∀ b : Bool, raddleref04_shape_j2 K (!decide (n.S = z4)) (!decide (n.Name = noB)) b n = some (decide (n.S = z4) && (decide (n.Name = noB) && (decide (n.L.length = 1) && (decide (n.Lo ≥ 0) && (decide (n.Lo ≤ 4096) && b))))) := fun b => by
      rw [raddleref04_shape_j2, Bool.not_not, Bool.not_not]
      have e1 : ((n.L.length : Int) == 1) = decide (n.L.length = 1) := by rw [Bool.eq_iff_iff, beq_iff_eq, decide_eq_true_eq]; omega
      rw [e1]
      rw [bif_false_some _ (bif_false_some _ (bif_false_some _ (bif_false_some _ (bif_false_some _ rfl))))]
    have hsh : ∀ b : Bool, (b = true ↔ (n.Hi = -1 ∨ (1 ≤ n.Hi ∧ n.Lo ≤ n.Hi ∧ n.Hi ≤ 4096))) → raddleref04_shape_j2 K (!decide (n.S = z4)) (!decide (n.Name = noB)) b n = some (decide (Shape n)) := fun b hb => by
      rw [hj2]
      refine hgoal ?_
      simp only [Bool.and_eq_true, decide_eq_true_eq, hb]
      constructor
      · rintro ⟨a, c, d, e, f, g⟩; exact .inr (.inl ⟨h5, a, d, c, e, f, g⟩)
      · intro h
        rcases h with h | h | h | h | h
        · omega
        · exact ⟨h.2.1, h.2.2.2.1, h.2.2.1, h.2.2.2.2.1, h.2.2.2.2.2.1, h.2.2.2.2.2.2⟩
        · omega
        · omega
        · omega
    by_cases c1 : n.Hi = -1
    · rw [show (n.Hi == -1) = true by simpa using c1, cond_true]; exact hsh true (by simp [c1])
    rw [show (n.Hi == -1) = false by simpa using c1, cond_false]
    by_cases c2 : n.Hi ≥ 1
    · rw [decide_eq_true c2, cond_true]
      by_cases c3 : n.Hi ≤ 4096
      · rw [decide_eq_true c3, cond_true]; exact hsh _ (by simp only [decide_eq_true_eq]; omega)
      · rw [decide_eq_false c3, cond_false]; exact hsh false (by simp only [Bool.false_eq_true, false_iff]; omega)
    · rw [decide_eq_false c2, cond_false]; exact hsh false (by simp only [Bool.false_eq_true, false_iff]; omega)
  rw [show (n.Op == 5) = false by simpa using h5, cond_false]
  by_cases h6 : n.Op = 6
  · rw [show (n.Op == 6) = true by simpa using h6, cond_true, rName_ok K _ hn.1 hn.2, Option.bind_some, hll]
    rw [bif_false_some _ (bif_false_some _ (bif_false_some _ rfl))]
    refine hgoal ?_
    simp only [Bool.not_not, Bool.and_eq_true, decide_eq_true_eq, Bool.not_eq_true', Bool.or_eq_false_iff, decide_eq_false_iff_not, Decidable.not_not]
    constructor
    · rintro ⟨a, ⟨b, c⟩, d, e⟩; exact .inr (.inr (.inr (.inl ⟨h6, a, e, b, c, d⟩)))
    · intro h
      rcases h with h | h | h | h | h
      · omega
      · omega
      · omega
      · exact ⟨h.2.1, ⟨h.2.2.2.1, h.2.2.2.2.1⟩, h.2.2.2.2.2, h.2.2.1⟩
      · omega
  rw [show (n.Op == 6) = false by simpa using h6, cond_false]
  refine hgoal ?_
  simp only [Bool.false_eq_true, false_iff]
  intro h
  rcases h with h | h | h | h | h <;> omega
end Go.Rv

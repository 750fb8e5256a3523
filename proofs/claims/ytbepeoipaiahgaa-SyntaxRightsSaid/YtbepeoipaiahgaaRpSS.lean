/- SyntaxRights, plainly: whether nodes are a tree is the document's. -/
import Derived.Test.YtbepeoipaiahgaaRpSR
namespace Go.Rv
/-- Nodes come to from some kids. -/
inductive WkF (l : List api_Node) : Nat → List Int → List Int → Prop
  | nil (b : Nat) : WkF l b [] []
  | cons {b k : Nat} {n : api_Node} {ks w1 w2 : List Int} (hk : k < b) (hn : l[k]? = some n) (h1 : WkF l k n.L w1) (h2 : WkF l b ks w2) : WkF l b ((k : Int) :: ks) ((w1 ++ [(k : Int)]) ++ w2)
theorem walk_l0 (K : Nat) (l : List api_Node) (hl : l.length ≤ 1024) (at_ : Nat) (hat : at_ < l.length) (hL : l[at_].L.length ≤ 9223372036854775807)
    (rc : List api_Node → Int → List Int → Option (List Int × Bool))
    (hrc : ∀ (k : Nat), k < at_ → ∀ seen : List Int, seen.length ≤ l.length + at_ → ∃ x b, rc l (k : Int) seen = some (x, b) ∧ x.length ≤ l.length + at_ ∧ (b = true → ∃ w n, l[k]? = some n ∧ WkF l k n.L w ∧ x = seen ++ w ++ [(k : Int)])) :
    ∀ (m k i : Nat) (seen : List Int), l[at_].L.length - i = m → i ≤ l[at_].L.length → m < k → seen.length ≤ l.length + at_ →
      ∃ x b, raddleref04_walk_l0 K rc k l (at_ : Int) (i : Int) seen = some (x, b) ∧ x.length ≤ l.length + at_ + 1 ∧ (b = true → ∃ w, WkF l at_ (l[at_].L.drop i) w ∧ x = seen ++ w ++ [(at_ : Int)]) := by
  intro m
  induction m with
  | zero =>
    intro k i seen hm hi hk hs
    obtain ⟨k, rfl⟩ : ∃ k', k = k' + 1 := ⟨k - 1, by omega⟩
    rw [raddleref04_walk_l0]
    dsimp only
    rw [geti_nat hat, Option.bind_some, show decide ((i : Int) < (l[at_].L.length : Int)) = false from decide_eq_false (by omega), cond_false, ck_pos (by simp only [List.length_cons, List.length_nil]; exact roomy8 (by omega))]
    refine ⟨_, _, rfl, by simp; omega, fun _ => ⟨[], ?_, by simp⟩⟩
    rw [List.drop_eq_nil_of_le (by omega)]
    exact .nil at_
  | succ m ih =>
    intro k i seen hm hi hk hs
    obtain ⟨k, rfl⟩ : ∃ k', k = k' + 1 := ⟨k - 1, by omega⟩
    have hlt : i < l[at_].L.length := by omega
    rw [raddleref04_walk_l0]
    dsimp only
    rw [geti_nat hat, Option.bind_some, show decide ((i : Int) < (l[at_].L.length : Int)) = true from decide_eq_true (by omega), cond_true, geti_nat hlt, Option.bind_some]
    by_cases h1 : l[at_].L[i] < 0
    · rw [decide_eq_true h1, cond_true, raddleref04_walk_j1]
      exact ⟨_, _, rfl, by omega, fun h => by cases h⟩
    rw [decide_eq_false h1, cond_false]
    by_cases h2 : l[at_].L[i] ≥ (at_ : Int)
    · rw [decide_eq_true h2, cond_true, raddleref04_walk_j1]
      exact ⟨_, _, rfl, by omega, fun h => by cases h⟩
    rw [decide_eq_false h2, cond_false]
    obtain ⟨q, hq⟩ : ∃ q : Nat, l[at_].L[i] = (q : Int) := ⟨l[at_].L[i].toNat, by omega⟩
    rw [hq] at h2
    obtain ⟨x, b, e1, hx, hb⟩ := hrc q (by omega) seen hs
    rw [hq, e1, Option.bind_some]
    cases b with
    | false =>
      simp only [Bool.not_false, cond_true]
      exact ⟨_, _, rfl, by omega, fun h => by cases h⟩
    | true =>
      simp only [Bool.not_true, cond_false]
      rw [w64s (n := i) (by omega)]
      obtain ⟨w1, n, hn, hw1, rfl⟩ := hb rfl
      obtain ⟨y, b, e2, hy, hb2⟩ := ih k (i + 1) _ (by omega) (by omega) (by omega) hx
      refine ⟨y, b, e2, hy, fun h => ?_⟩
      obtain ⟨w2, hw2, rfl⟩ := hb2 h
      refine ⟨(w1 ++ [(q : Int)]) ++ w2, ?_, by simp only [List.append_assoc]⟩
      rw [List.drop_eq_getElem_cons hlt, hq]
      exact .cons (by omega) hn hw1 hw2
theorem walk_ok (K : Nat) (hK : 1100 ≤ K) (l : List api_Node) (hl : l.length ≤ 1024) (hn : NodesOk K l) : ∀ (n at_ : Nat), at_ < n → (hat : at_ < l.length) → ∀ seen : List Int, seen.length ≤ l.length + at_ + 1 →
    ∃ x b, raddleref04_walk_r K n l (at_ : Int) seen = some (x, b) ∧ x.length ≤ l.length + at_ + 1 ∧ (b = true → ∃ w, WkF l at_ l[at_].L w ∧ x = seen ++ w ++ [(at_ : Int)]) := by
  intro n
  induction n with
  | zero => intro at_ h; omega
  | succ n ih =>
    intro at_ hlt hat seen hs
    rw [raddleref04_walk_r, raddleref04_walk_b]
    by_cases h1 : l.length ≤ seen.length
    · rw [show decide ((seen.length : Int) ≥ (l.length : Int)) = true from decide_eq_true (by omega), cond_true]
      exact ⟨_, _, rfl, hs, fun h => by cases h⟩
    · rw [show decide ((seen.length : Int) ≥ (l.length : Int)) = false from decide_eq_false (by omega), cond_false]
      have hnn := hn _ (List.getElem_mem hat)
      have := walk_l0 K l hl at_ hat hnn.2.2 (raddleref04_walk_r K n) (fun k hk seen hs => by
        by_cases hs2 : seen.length ≤ l.length + k + 1
        · obtain ⟨x, b, e1, h2, h3⟩ := ih k (by omega) (by omega) seen hs2
          refine ⟨x, b, e1, by omega, fun hb => ?_⟩
          obtain ⟨w, hw, hx⟩ := h3 hb
          exact ⟨w, l[k], List.getElem?_eq_getElem (by omega), hw, hx⟩
        · obtain ⟨n, rfl⟩ : ∃ n', n = n' + 1 := ⟨n - 1, by omega⟩
          rw [raddleref04_walk_r, raddleref04_walk_b, show decide ((seen.length : Int) ≥ (l.length : Int)) = true from decide_eq_true (by omega), cond_true]
          exact ⟨_, _, rfl, hs, fun h => by cases h⟩) l[at_].L.length K 0 seen (by omega) (by omega) (by omega) (by omega)
      obtain ⟨x, b, e1, h2, h3⟩ := this
      exact ⟨x, b, e1, h2, by simpa using h3⟩
/-- The numbers from a on. -/
def rng (a n : Nat) : List Int := (List.range' a n).map Int.ofNat
theorem rng_len (a n : Nat) : (rng a n).length = n := by simp [rng]
theorem rng_add (a m n : Nat) : rng a (m + n) = rng a m ++ rng (a + m) n := by
  simp only [rng, ← List.map_append, List.range'_append_1]
theorem rng_one (a : Nat) : rng a 1 = [(a : Int)] := rfl
theorem rng_split {a n : Nat} {x y : List Int} (h : x ++ y = rng a n) : x = rng a x.length ∧ y = rng (a + x.length) y.length := by
  have hn : n = x.length + y.length := by rw [← rng_len a n, ← h, List.length_append]
  rw [hn, rng_add] at h
  have h1 := congrArg (List.take x.length) h
  have h2 := congrArg (List.drop x.length) h
  have hl := rng_len a x.length
  rw [List.take_left, List.take_append_of_le_length (by omega), List.take_of_length_le (by omega)] at h1
  rw [List.drop_left, List.drop_append_of_le_length (by omega), List.drop_of_length_le (by omega), List.nil_append] at h2
  exact ⟨h1, h2⟩
/-- What was come to in order is a row of trees. -/
theorem wk_tree (l : List api_Node) (hs : ∀ n ∈ l, Shape n) {b : Nat} {ks w : List Int} (h : WkF l b ks w) : ∀ a, w = rng a w.length → ∃ f : Pt, f.wf false ∧ f.roots a = ks ∧ f.sz = w.length ∧ ∀ j x, (f.flat a)[j]? = some x → l[a + j]? = some x := by
  induction h with
  | nil => intro a _; exact ⟨.nil, trivial, rfl, rfl, by simp [Pt.flat]⟩
  | @cons b k n ks w1 w2 hk hn _ _ ih1 ih2 =>
    intro a hw
    obtain ⟨h1, h2⟩ := rng_split (x := w1 ++ [(k : Int)]) (y := w2) hw
    rw [List.length_append, List.length_singleton] at h1 h2
    obtain ⟨h3, h4⟩ := rng_split (x := w1) (y := [(k : Int)]) h1
    have hka : k = a + w1.length := by
      rw [List.length_singleton, rng_one] at h4
      simp only [List.cons.injEq, and_true] at h4
      omega
    obtain ⟨f, hf, hfr, hfs, hfl⟩ := ih1 a h3
    obtain ⟨g, hg, hgr, hgs, hgl⟩ := ih2 (a + (w1.length + 1)) h2
    obtain ⟨t, ht, htf, hts⟩ := node_tree (hs n (List.mem_of_getElem? hn)) hf a hfr
    have hsz : t.sz = w1.length + 1 := by rw [hts, hfs]
    refine ⟨.cons t g, ⟨ht, hg⟩, ?_, ?_, ?_⟩
    · simp only [Pt.roots, hsz, hgr]
      congr 1
      omega
    · simp only [Pt.sz, hsz, hgs, List.length_append, List.length_singleton]
    · intro j x hx
      simp only [Pt.flat, hsz] at hx
      have htl : (t.flat a).length = w1.length + 1 := by rw [Pt.flat_len, hsz]
      by_cases hj : j < w1.length + 1
      · rw [List.getElem?_append_left (by omega), htf] at hx
        have hfl' : (f.flat a).length = w1.length := by rw [Pt.flat_len, hfs]
        by_cases hj2 : j < w1.length
        · rw [List.getElem?_append_left (by omega)] at hx
          exact hfl j x hx
        · have hje : j = w1.length := by omega
          rw [List.getElem?_append_right (by omega), hfl', hje, Nat.sub_self] at hx
          simp only [List.getElem?_cons_zero, Option.some.injEq] at hx
          subst hx
          rw [hje, ← hka]
          exact hn
      · rw [List.getElem?_append_right (by omega), htl] at hx
        have := hgl _ x hx
        rwa [show a + (w1.length + 1) + (j - (w1.length + 1)) = a + j by omega] at this
/-- A tree's nodes are come to in order. -/
theorem walk_flat (K : Nat) (hK : 1100 ≤ K) (l : List api_Node) (hl : l.length ≤ 1024) : ∀ (t : Pt),
    (t.wf true → ∀ (a n : Nat) (seen : List Int), a + t.sz ≤ n → a + t.sz ≤ l.length → seen.length = a → (∀ j x, (t.flat a)[j]? = some x → l[a + j]? = some x) →
      raddleref04_walk_r K n l (((a + t.sz : Nat) : Int) - 1) seen = some (seen ++ rng a t.sz, true)) ∧
    (t.wf false → ∀ (a n at_ : Nat) (hat : at_ < l.length) (seen pre post : List Int) (k : Nat), a + t.sz ≤ at_ → at_ ≤ n → seen.length = a → l[at_].L = pre ++ t.roots a ++ post → l[at_].L.length ≤ 1024 → t.len < k → (∀ j x, (t.flat a)[j]? = some x → l[a + j]? = some x) →
      raddleref04_walk_l0 K (raddleref04_walk_r K n) k l (at_ : Int) (pre.length : Int) seen = raddleref04_walk_l0 K (raddleref04_walk_r K n) (k - t.len) l (at_ : Int) ((pre.length + t.len : Nat) : Int) (seen ++ rng a t.sz)) := by
  intro t
  -- a node over a row of kids
  have node : ∀ (f : Pt) (nd : api_Node) (a n : Nat) (seen : List Int), f.wf false → (f.wf false → ∀ (a n at_ : Nat) (hat : at_ < l.length) (seen pre post : List Int) (k : Nat), a + f.sz ≤ at_ → at_ ≤ n → seen.length = a → l[at_].L = pre ++ f.roots a ++ post → l[at_].L.length ≤ 1024 → f.len < k → (∀ j x, (f.flat a)[j]? = some x → l[a + j]? = some x) →
      raddleref04_walk_l0 K (raddleref04_walk_r K n) k l (at_ : Int) (pre.length : Int) seen = raddleref04_walk_l0 K (raddleref04_walk_r K n) (k - f.len) l (at_ : Int) ((pre.length + f.len : Nat) : Int) (seen ++ rng a f.sz)) →
      nd.L = f.roots a → a + (f.sz + 1) ≤ n → a + (f.sz + 1) ≤ l.length → seen.length = a → (∀ j x, (f.flat a ++ [nd])[j]? = some x → l[a + j]? = some x) →
      raddleref04_walk_r K n l (((a + (f.sz + 1) : Nat) : Int) - 1) seen = some (seen ++ rng a (f.sz + 1), true) := by
    intro f nd a n seen hf hloop hL hn hle hs hseg
    obtain ⟨n, rfl⟩ : ∃ n', n = n' + 1 := ⟨n - 1, by omega⟩
    have hat : a + f.sz < l.length := by omega
    have hfl : (f.flat a).length = f.sz := Pt.flat_len f a
    have hnd : l[a + f.sz] = nd := by
      have := hseg f.sz nd (by rw [List.getElem?_append_right (by omega), hfl, Nat.sub_self]; rfl)
      rw [List.getElem?_eq_getElem hat] at this
      exact Option.some.inj this
    have hlen := len_sz f hf
    have hLl : l[a + f.sz].L.length = f.len := by rw [hnd, hL, Pt.roots_len]
    rw [raddleref04_walk_r, raddleref04_walk_b, show decide ((seen.length : Int) ≥ (l.length : Int)) = false from decide_eq_false (by omega), cond_false]
    rw [show (((a + (f.sz + 1) : Nat) : Int) - 1) = ((a + f.sz : Nat) : Int) by omega]
    have h1 := hloop hf a n (a + f.sz) hat seen [] [] K (by omega) (by omega) hs (by rw [hnd, hL]; simp) (by omega) (by omega) (fun j x hj => hseg j x (by
      have : j < (f.flat a).length := (List.getElem?_eq_some_iff.1 hj).1
      rw [List.getElem?_append_left this]; exact hj))
    rw [show (0 : Int) = ((([] : List Int).length : Nat) : Int) from rfl, h1]
    obtain ⟨k, hk⟩ : ∃ k', K - f.len = k' + 1 := ⟨K - f.len - 1, by omega⟩
    rw [hk, raddleref04_walk_l0]
    dsimp only
    rw [geti_nat hat, Option.bind_some, hLl]
    rw [show decide (((([] : List Int).length + f.len : Nat) : Int) < (f.len : Int)) = false from decide_eq_false (by simp), cond_false, ck_pos (by simp only [List.length_cons, List.length_nil, List.length_append, rng_len]; exact roomy8 (by omega)), rng_add, rng_one, List.append_assoc]
  have leaf : ∀ (nd : api_Node) (a n : Nat) (seen : List Int), nd.L = [] → a + 1 ≤ n → a + 1 ≤ l.length → seen.length = a → (∀ j x, [nd][j]? = some x → l[a + j]? = some x) → raddleref04_walk_r K n l (((a + 1 : Nat) : Int) - 1) seen = some (seen ++ rng a 1, true) := by
    intro nd a n seen hL hn hle hs hseg
    exact node .nil nd a n seen trivial (fun _ a n at_ hat seen pre post k _ _ _ _ _ _ _ => by simp [Pt.len, Pt.sz, rng]) hL hn hle hs (by simpa [Pt.flat] using hseg)
  induction t with
  | empty => exact ⟨fun _ a n seen h1 h2 h3 h4 => leaf _ a n seen rfl h1 h2 h3 h4, fun h => h.elim⟩
  | set s => exact ⟨fun _ a n seen h1 h2 h3 h4 => leaf _ a n seen rfl h1 h2 h3 h4, fun h => h.elim⟩
  | ref nm => exact ⟨fun _ a n seen h1 h2 h3 h4 => leaf _ a n seen rfl h1 h2 h3 h4, fun h => h.elim⟩
  | cat f ih => exact ⟨fun h a n seen h1 h2 h3 h4 => node f _ a n seen h.2 ih.2 rfl h1 h2 h3 h4, fun h => h.elim⟩
  | alt f ih => exact ⟨fun h a n seen h1 h2 h3 h4 => node f _ a n seen h.2 ih.2 rfl h1 h2 h3 h4, fun h => h.elim⟩
  | nil => exact ⟨fun h => h.elim, fun _ a n at_ hat seen pre post k _ _ _ _ _ _ _ => by simp [Pt.len, Pt.sz, rng]⟩
  | rep t lo hi ih =>
    refine ⟨fun h a n seen h1 h2 h3 h4 => ?_, fun h => h.elim⟩
    have hcons : (Pt.cons t .nil).wf false := ⟨h.1, trivial⟩
    have := node (.cons t .nil) ⟨5, z4, [((a + t.sz : Nat) : Int) - 1], lo, hi, noB⟩ a n seen hcons (fun _ a n at_ hat seen pre post k g1 g2 g3 g4 g5 g6 g7 => by
      simp only [Pt.sz, Nat.add_zero] at g1
      simp only [Pt.flat, List.append_nil] at g7
      simp only [Pt.len] at g6 ⊢
      simp only [Pt.sz, Nat.add_zero]
      simp only [Pt.roots] at g4
      obtain ⟨k, rfl⟩ : ∃ k', k = k' + 1 := ⟨k - 1, by omega⟩
      have hlt : pre.length < l[at_].L.length := by rw [g4]; simp
      have hget : l[at_].L[pre.length] = ((a + t.sz : Nat) : Int) - 1 := by
        simp only [g4, List.append_assoc]
        simp
      have hts := wf_sz h.1
      rw [raddleref04_walk_l0]
      dsimp only
      rw [geti_nat hat, Option.bind_some, show decide ((pre.length : Int) < (l[at_].L.length : Int)) = true from decide_eq_true (by omega), cond_true, geti_nat hlt, Option.bind_some, hget, show decide ((((a + t.sz : Nat) : Int) - 1) < 0) = false from decide_eq_false (by omega), cond_false, show decide ((((a + t.sz : Nat) : Int) - 1) ≥ (at_ : Int)) = false from decide_eq_false (by omega), cond_false, ih.1 h.1 a n seen (by omega) (by omega) g3 g7, Option.bind_some]
      simp only [Bool.not_true, cond_false]
      rw [w64s (n := pre.length) (by omega)]
      rfl) (by simp [Pt.roots]) (by simpa [Pt.sz] using h1) (by simpa [Pt.sz] using h2) h3 (by simpa [Pt.flat] using h4)
    simpa [Pt.sz] using this
  | cons t f iht ihf =>
    refine ⟨fun h => h.elim, fun h a n at_ hat seen pre post k g1 g2 g3 g4 g5 g6 g7 => ?_⟩
    simp only [Pt.sz] at g1
    simp only [Pt.flat] at g7
    simp only [Pt.len] at g6
    simp only [Pt.roots] at g4
    obtain ⟨k, rfl⟩ : ∃ k', k = k' + 1 := ⟨k - 1, by omega⟩
    have hlt : pre.length < l[at_].L.length := by rw [g4]; simp
    have hget : l[at_].L[pre.length] = ((a + t.sz : Nat) : Int) - 1 := by
      simp only [g4, List.append_assoc]
      simp
    have hts := wf_sz h.1
    have htl : (t.flat a).length = t.sz := Pt.flat_len t a
    rw [raddleref04_walk_l0]
    dsimp only
    rw [geti_nat hat, Option.bind_some, show decide ((pre.length : Int) < (l[at_].L.length : Int)) = true from decide_eq_true (by omega), cond_true, geti_nat hlt, Option.bind_some, hget, show decide ((((a + t.sz : Nat) : Int) - 1) < 0) = false from decide_eq_false (by omega), cond_false, show decide ((((a + t.sz : Nat) : Int) - 1) ≥ (at_ : Int)) = false from decide_eq_false (by omega), cond_false, iht.1 h.1 a n seen (by omega) (by omega) g3 (fun j x hj => g7 j x (by
      have : j < (t.flat a).length := (List.getElem?_eq_some_iff.1 hj).1
      rw [List.getElem?_append_left this]; exact hj)), Option.bind_some]
    simp only [Bool.not_true, cond_false]
    rw [w64s (n := pre.length) (by omega)]
    have h2 := ihf.2 h.2 (a + t.sz) n at_ hat (seen ++ rng a t.sz) (pre ++ [((a + t.sz : Nat) : Int) - 1]) post k (by omega) g2 (by rw [List.length_append, rng_len, g3]) (by rw [g4]; simp only [List.append_assoc, List.cons_append, List.nil_append]) g5 (by omega) (fun j x hj => by
      have := g7 (t.sz + j) x (by rw [List.getElem?_append_right (by omega), htl, Nat.add_sub_cancel_left]; exact hj)
      rwa [← Nat.add_assoc] at this)
    rw [show (pre ++ [((a + t.sz : Nat) : Int) - 1]).length = pre.length + 1 by simp] at h2
    rw [h2]
    simp only [Pt.len, Pt.sz, rng_add, List.append_assoc]
    rw [show k + 1 - (f.len + 1) = k - f.len by omega, show pre.length + 1 + f.len = pre.length + (f.len + 1) by omega]
theorem flat_shape : ∀ (t : Pt) (b : Bool), t.wf b → ∀ n, ∀ x ∈ t.flat n, Shape x := by
  intro t
  induction t with
  | empty => intro b h n x hx; simp [Pt.flat] at hx; subst hx; simp [Shape]
  | set s =>
    intro b h n x hx
    cases b with
    | false => exact h.elim
    | true => simp [Pt.flat] at hx; subst hx; exact .inl ⟨rfl, h, rfl, rfl, rfl, rfl⟩
  | ref nm =>
    intro b h n x hx
    cases b with
    | false => exact h.elim
    | true => simp [Pt.flat] at hx; subst hx; exact .inr (.inr (.inr (.inl ⟨rfl, rfl, rfl, rfl, rfl, by rw [bs_toB h.2]; exact h.1⟩)))
  | rep t lo hi ih =>
    intro b h n x hx
    cases b with
    | false => exact h.elim
    | true =>
      simp only [Pt.flat, List.mem_append, List.mem_singleton] at hx
      rcases hx with hx | rfl
      · exact ih true h.1 n x hx
      · exact .inr (.inl ⟨rfl, rfl, rfl, rfl, h.2⟩)
  | cat f ih =>
    intro b h n x hx
    cases b with
    | false => exact h.elim
    | true =>
      simp only [Pt.flat, List.mem_append, List.mem_singleton] at hx
      rcases hx with hx | rfl
      · exact ih false h.2 n x hx
      · exact .inr (.inr (.inl ⟨.inl rfl, rfl, by rw [Pt.roots_len]; exact h.1, rfl, rfl, rfl⟩))
  | alt f ih =>
    intro b h n x hx
    cases b with
    | false => exact h.elim
    | true =>
      simp only [Pt.flat, List.mem_append, List.mem_singleton] at hx
      rcases hx with hx | rfl
      · exact ih false h.2 n x hx
      · exact .inr (.inr (.inl ⟨.inr rfl, rfl, by rw [Pt.roots_len]; exact h.1, rfl, rfl, rfl⟩))
  | nil => intro b h n x hx; simp [Pt.flat] at hx
  | cons t f iht ihf =>
    intro b h n x hx
    cases b with
    | true => exact h.elim
    | false =>
      simp only [Pt.flat, List.mem_append] at hx
      rcases hx with hx | hx
      · exact iht true h.1 n x hx
      · exact ihf false h.2 _ x hx
theorem order_l3 (K : Nat) (o : List Int) (ho : o.length ≤ 100000) : ∀ (m k i : Nat), o.length - i = m → i ≤ o.length → m < k → raddleref04_Right_l3 K k (i : Int) o = some (decide (o.drop i = rng i (o.length - i))) := by
  intro m
  induction m with
  | zero =>
    intro k i hm hi hk
    obtain ⟨k, rfl⟩ : ∃ k', k = k' + 1 := ⟨k - 1, by omega⟩
    rw [raddleref04_Right_l3]
    dsimp only
    rw [show decide ((i : Int) < (o.length : Int)) = false from decide_eq_false (by omega), cond_false, List.drop_eq_nil_of_le (by omega), hm]
    rfl
  | succ m ih =>
    intro k i hm hi hk
    obtain ⟨k, rfl⟩ : ∃ k', k = k' + 1 := ⟨k - 1, by omega⟩
    have h1 : i < o.length := by omega
    rw [raddleref04_Right_l3]
    dsimp only
    rw [show decide ((i : Int) < (o.length : Int)) = true from decide_eq_true (by omega), cond_true, geti_nat h1, Option.bind_some, w64s (n := i) (by omega), ih k (i + 1) (by omega) (by omega) (by omega), List.drop_eq_getElem_cons h1, show o.length - i = 1 + (o.length - (i + 1)) by omega, rng_add, rng_one]
    by_cases he : o[i] = (i : Int)
    · have : (o[i] != (i : Int)) = false := by simpa using he
      rw [this, cond_false]
      simp only [List.cons_append, List.nil_append, List.cons.injEq, he, true_and]
    · have : (o[i] != (i : Int)) = true := by simpa using he
      rw [this, cond_true]
      simp only [List.cons_append, List.cons.injEq, he, false_and, decide_false]
theorem rright_l1 (K : Nat) (hK : 1100 ≤ K) (l : List api_Node) (hl : l.length ≤ 1024) (h0 : 1 ≤ l.length) (hn : NodesOk K l) : ∀ (m k i : Nat), l.length - i = m → i ≤ l.length → m < k → (∀ j (h : j < i) (h2 : j < l.length), Shape l[j]) → raddleref04_Right_l1 K k l (i : Int) = some (rightS l) := by
  intro m
  induction m with
  | zero =>
    intro k i hm hi hk hsh
    obtain ⟨k, rfl⟩ : ∃ k', k = k' + 1 := ⟨k - 1, by omega⟩
    have hall : ∀ n ∈ l, Shape n := fun n hmem => by
      obtain ⟨j, hj, rfl⟩ := List.getElem_of_mem hmem
      exact hsh j (by omega) hj
    rw [raddleref04_Right_l1]
    dsimp only
    rw [show decide ((i : Int) < (l.length : Int)) = false from decide_eq_false (by omega), cond_false]
    have ew : IntKind.i64.wrap ((l.length : Int) - 1) = ((l.length - 1 : Nat) : Int) := by rw [w64 (by omega) (by omega)]; omega
    obtain ⟨x, b, e1, hx, hb⟩ := walk_ok K hK l hl hn K (l.length - 1) (by omega) (by omega) [] (by simp)
    rw [ew, raddleref04_walk, e1, Option.bind_some]
    -- what is Right is come to
    have hback : rightS l = true → b = true ∧ x = rng 0 l.length := by
      intro hr
      obtain ⟨t, ht, htf, hts⟩ := (right_iff l).1 hr
      have hsz : t.sz = l.length := by rw [← htf, Pt.flat_len]
      have hts1 := wf_sz ht
      have := (walk_flat K hK l hl t).1 ht 0 K [] (by omega) (by omega) rfl (fun j y hj => by rw [Nat.zero_add, ← htf]; exact hj)
      rw [show (((0 + t.sz : Nat) : Int) - 1) = ((l.length - 1 : Nat) : Int) by omega, e1] at this
      simp only [Option.some.injEq, Prod.mk.injEq, List.nil_append] at this
      exact ⟨this.2, by rw [this.1, hsz]⟩
    cases b with
    | false =>
      simp only [Bool.not_false, cond_true, raddleref04_Right_j2]
      cases hr : rightS l with
      | false => rfl
      | true => exact absurd (hback hr).1 (by simp)
    | true =>
      simp only [Bool.not_true, cond_false]
      by_cases hlen : x.length = l.length
      · rw [show ((x.length : Int) != (l.length : Int)) = false by simp; omega, cond_false]
        have h3 := order_l3 K x (by omega) x.length K 0 (by omega) (by omega) (by omega)
        rw [show ((0 : Nat) : Int) = 0 from rfl, List.drop_zero, Nat.sub_zero] at h3
        rw [h3]
        congr 1
        rw [Bool.eq_iff_iff, decide_eq_true_eq]
        constructor
        · intro ho
          obtain ⟨w, hw, hxw⟩ := hb rfl
          rw [List.nil_append] at hxw
          have ho' := ho
          rw [hxw] at ho'
          obtain ⟨h4, h5⟩ := rng_split (x := w) (y := [((l.length - 1 : Nat) : Int)]) ho'
          obtain ⟨f, hf, hfr, hfs, hfl⟩ := wk_tree l hall hw 0 h4
          obtain ⟨t, ht, htf, hts⟩ := node_tree (hall l[l.length - 1] (List.getElem_mem _)) hf 0 hfr
          have hwl : w.length = l.length - 1 := by
            have := congrArg List.length hxw
            rw [List.length_append, List.length_singleton] at this
            omega
          refine (right_iff l).2 ⟨t, ht, ?_, by omega⟩
          rw [htf]
          apply List.ext_getElem?
          intro j
          have hfll : (f.flat 0).length = l.length - 1 := by rw [Pt.flat_len, hfs, hwl]
          by_cases hj : j < l.length - 1
          · rw [List.getElem?_append_left (by omega)]
            have hj2 : j < (f.flat 0).length := by omega
            have := hfl j _ (List.getElem?_eq_getElem hj2)
            rw [Nat.zero_add] at this
            rw [this, List.getElem?_eq_getElem hj2]
          · rw [List.getElem?_append_right (by omega), hfll]
            by_cases hj2 : j = l.length - 1
            · rw [hj2, Nat.sub_self, List.getElem?_eq_getElem (show l.length - 1 < l.length by omega)]
              rfl
            · rw [List.getElem?_eq_none (by simp; omega), List.getElem?_eq_none (by omega)]
        · intro hr
          have := (hback hr).2
          rw [this, rng_len]
      · rw [show ((x.length : Int) != (l.length : Int)) = true by simp; omega, cond_true, raddleref04_Right_j2]
        cases hr : rightS l with
        | false => rfl
        | true =>
          have := (hback hr).2
          rw [this, rng_len] at hlen
          exact absurd rfl hlen
  | succ m ih =>
    intro k i hm hi hk hsh
    obtain ⟨k, rfl⟩ : ∃ k', k = k' + 1 := ⟨k - 1, by omega⟩
    have hlt : i < l.length := by omega
    have hni := hn _ (List.getElem_mem hlt)
    rw [raddleref04_Right_l1]
    dsimp only
    rw [show decide ((i : Int) < (l.length : Int)) = true from decide_eq_true (by omega), cond_true, geti_nat hlt, Option.bind_some, shape_ok K _ hni.1, Option.bind_some]
    by_cases hs : Shape l[i]
    · rw [decide_eq_true hs]
      simp only [Bool.not_true, cond_false]
      rw [w64s (n := i) (by omega)]
      refine ih k (i + 1) (by omega) (by omega) (by omega) (fun j hj h2 => ?_)
      by_cases hji : j = i
      · subst hji; exact hs
      · exact hsh j (by omega) h2
    · rw [decide_eq_false hs]
      simp only [Bool.not_false, cond_true]
      cases hr : rightS l with
      | false => rfl
      | true =>
        obtain ⟨t, ht, htf, hts⟩ := (right_iff l).1 hr
        exact absurd (flat_shape t true ht 0 l[i] (by rw [htf]; exact List.getElem_mem hlt)) hs
theorem rRight_ok (K : Nat) (hK : 1100 ≤ K) (l : List api_Node) (hn : NodesOk K l) : raddleref04_Right K l = some (rightS l) := by
  rw [raddleref04_Right]
  by_cases h1 : l.length < 1
  · rw [show decide ((l.length : Int) < 1) = true from decide_eq_true (by omega), cond_true, raddleref04_Right_j0, rightS, show decide (1 ≤ l.length) = false from decide_eq_false (by omega)]
    rfl
  · rw [show decide ((l.length : Int) < 1) = false from decide_eq_false (by omega), cond_false]
    by_cases h2 : 1024 < l.length
    · rw [show decide ((l.length : Int) > 1024) = true from decide_eq_true (by omega), cond_true, raddleref04_Right_j0, rightS, show decide (l.length ≤ 1024) = false from decide_eq_false (by omega), Bool.and_false]
      rfl
    · rw [show decide ((l.length : Int) > 1024) = false from decide_eq_false (by omega), cond_false]
      exact rright_l1 K hK l (by omega) (by omega) hn l.length K 0 (by omega) (by omega) (by omega) (fun j h _ => by omega)
theorem nodes_need : ∀ (l : List api_Node), (∀ n ∈ l, n.Name.size ≤ 9223372036854775807 ∧ n.L.length ≤ 9223372036854775807) → ∃ K, 6000 ≤ K ∧ NodesOk K l := by
  intro l
  induction l with
  | nil => intro _; exact ⟨6000, by omega, fun n hn => by simp at hn⟩
  | cons a l ih =>
    intro h
    obtain ⟨K, hK, hl⟩ := ih (fun n hn => h n (List.mem_cons_of_mem _ hn))
    have ha := h a (List.mem_cons_self ..)
    refine ⟨K + a.Name.size + a.L.length + 1, by omega, fun n hn => ?_⟩
    rcases List.mem_cons.1 hn with rfl | hn
    · exact ⟨⟨by omega, ha.1⟩, by omega, ha.2⟩
    · obtain ⟨⟨h1, h2⟩, h3, h4⟩ := hl n hn
      exact ⟨⟨by omega, h2⟩, by omega, h4⟩
theorem Rights_plain (l : List api_Node) (hl : ∀ n ∈ l, n.Name.size ≤ 9223372036854775807 ∧ n.L.length ≤ 9223372036854775807) : ∃ K, raddlelaw04_SyntaxRights K l = some true := by
  obtain ⟨K, hK, hn⟩ := nodes_need (l.take (min 1100 l.length)) (fun n hn => hl n (List.mem_of_mem_take hn))
  refine ⟨K, ?_⟩
  have e := minIf 1100 l.length
  rw [show ((1100 : Nat) : Int) = (1100 : Int) from rfl] at e
  rw [raddlelaw04_SyntaxRights, e, Int.toNat_natCast, ck_pos ⟨by omega, by omega, by omega⟩, shown_at (by omega), Option.bind_some, cond_true, List.drop_zero, Right_ok K (by omega) _ hn, Option.bind_some, rRight_ok K (by omega) _ hn, Option.bind_some, beq_self_eq_true]
end Go.Rv

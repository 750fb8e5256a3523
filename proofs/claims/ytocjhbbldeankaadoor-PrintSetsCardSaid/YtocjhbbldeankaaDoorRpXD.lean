/- Print, plainly: a byte, and a set, as they stand in a pattern, are read as what they are; the law PrintSets. -/
import Derived.Test.YtocjhbbldeankaaDoorRpXC
namespace Go.Rv
theorem hex_all : ∀ d : _root_.Fin 16, hexN (hxN d.val) = some d.val := by decide
theorem spec_all : ∀ c : _root_.Fin 256, (specN c.val || c.val == 45) = true → c.val ≠ 110 ∧ c.val ≠ 116 ∧ c.val ≠ 114 ∧ c.val ≠ 120 ∧ (c.val = 45 ∨ specN c.val = true) := by decide +kernel
theorem pOne_pb {c : Nat} (h : c < 256) (r : List Nat) : pOne (pbL c ++ r) = .ok c r := by
  unfold pbL
  split
  · next hs =>
    obtain ⟨h1, h2, h3, h4, h5⟩ := spec_all ⟨c, h⟩ hs
    simp only at h1 h2 h3 h4 h5
    show pOne (92 :: c :: r) = _
    rw [pOne, if_pos rfl, pEsc, if_neg h1, if_neg h2, if_neg h3, if_neg h4, if_pos h5]
  · next hs =>
    split
    · next h => subst h; rfl
    · split
      · next h => subst h; rfl
      · split
        · next h => subst h; rfl
        · split
          · show pOne (92 :: 120 :: hxN (c / 16) :: hxN (c % 16) :: r) = _
            have e1 := hex_all ⟨c / 16, by omega⟩
            have e2 := hex_all ⟨c % 16, by omega⟩
            simp only at e1 e2
            rw [pOne, if_pos rfl, pEsc, if_neg (by decide), if_neg (by decide), if_neg (by decide), if_pos rfl, pPair]
            simp only [e1, e2]
            rw [show 16 * (c / 16) + c % 16 = c by omega]
          · show pOne (c :: r) = _
            rw [pOne, if_neg (by rintro rfl; exact hs (by decide))]
theorem pb_head (c : Nat) : ∃ x t, pbL c = x :: t ∧ (x = 92 ∨ x = c ∧ specN c = false ∧ c ≠ 45) := by
  unfold pbL
  split
  · exact ⟨_, _, rfl, .inl rfl⟩
  · next hs =>
    split
    · exact ⟨_, _, rfl, .inl rfl⟩
    · split
      · exact ⟨_, _, rfl, .inl rfl⟩
      · split
        · exact ⟨_, _, rfl, .inl rfl⟩
        · split
          · exact ⟨_, _, rfl, .inl rfl⟩
          · simp only [Bool.or_eq_true, beq_iff_eq, not_or, Bool.not_eq_true] at hs
            exact ⟨_, _, rfl, .inr ⟨rfl, hs.1, hs.2⟩⟩
theorem pb_free {c x : Nat} {t : List Nat} (h : pbL c = x :: t) : x ≠ 46 ∧ x ≠ 123 ∧ x ≠ 47 ∧ x ≠ 36 ∧ x ≠ 40 ∧ x ≠ 91 ∧ x ≠ 93 ∧ x ≠ 45 ∧ x ≠ 94 ∧ x ≠ 124 ∧ x ≠ 41 ∧ x ≠ 42 ∧ x ≠ 43 ∧ x ≠ 63 ∧ (x = 92 ∨ specN x = false) ∧ markN x = false := by
  obtain ⟨y, u, h1, h2⟩ := pb_head c
  rw [h] at h1
  obtain ⟨rfl, rfl⟩ := List.cons.inj h1
  rcases h2 with rfl | ⟨rfl, hs, h45⟩
  · decide
  · have ne : ∀ y : Nat, specN y = true → x ≠ y := fun y hy he => by rw [he, hy] at hs; cases hs
    refine ⟨ne _ rfl, ne _ rfl, ne _ rfl, ne _ rfl, ne _ rfl, ne _ rfl, ne _ rfl, h45, ne _ rfl, ne _ rfl, ne _ rfl, ne _ rfl, ne _ rfl, ne _ rfl, .inr hs, ?_⟩
    have h93 := ne 93 rfl
    have h94 := ne 94 rfl
    simp [markN, h93, h94, h45]
theorem pLeaf_pb {c : Nat} (h : c < 256) (r : List Nat) : pLeaf (pbL c ++ r) = .ok (.set (st fun x => x == c)) r := by
  have h1 := pOne_pb h r
  obtain ⟨x, t, hx, _⟩ := pb_head c
  obtain ⟨n1, n2, n3, n4, _, _, _, _, _, _, _, _, _, _, n5, _⟩ := pb_free hx
  rw [hx, List.cons_append] at h1 ⊢
  rw [pLeaf, if_neg n1, if_neg (fun hh => n2 hh.1), if_neg (by rintro (h | h); exact n3 h; exact n4 h), if_neg (by
    rintro ⟨a, b⟩
    rcases n5 with h | h
    · exact a h
    · rw [h] at b; cases b), h1]
theorem atom_pb {c : Nat} (h : c < 256) (n : Nat) (r : List Nat) : PR (.atom n) (pbL c ++ r) (.ok (.set (st fun x => x == c)) r) := by
  obtain ⟨x, t, hx, _⟩ := pb_head c
  obtain ⟨_, _, _, _, n1, n2, _⟩ := pb_free hx
  have := PR.atomL (n := n) (l := pbL c ++ r) (by rw [hx]; simpa using n1) (by rw [hx]; simpa using n2)
  rwa [pLeaf_pb h r] at this
theorem pMember_pb {c : Nat} (h : c < 256) (r : List Nat) : pMember (pbL c ++ r) = .ok c r := by
  have h1 := pOne_pb h r
  obtain ⟨x, t, hx, _⟩ := pb_head c
  obtain ⟨_, _, _, _, _, _, _, _, _, _, _, _, _, _, _, n1⟩ := pb_free hx
  rw [hx, List.cons_append] at h1 ⊢
  rw [pMember, if_neg (by rw [n1]; decide), h1]
theorem pSpan_1 {c : Nat} (h : c < 256) {r : List Nat} (hr : r.head? ≠ some 45) : pSpan (pbL c ++ r) = .ok (c, c) r := by
  rw [pSpan, pMember_pb h]
  match r, hr with
  | [], _ => rfl
  | 45 :: r, hr => exact absurd rfl hr
  | x :: r, hr =>
    have : x ≠ 45 := fun h => hr (by rw [h]; rfl)
    split
    · next h => simp at h
    · next h => simp only [Re.ok.injEq, List.cons.injEq] at h; exact absurd h.2.1 this
    · next h => simp only [Re.ok.injEq] at h; rw [← h.1, ← h.2]
theorem pSpan_2 {lo hi : Nat} (h1 : lo < 256) (h2 : hi < 256) (hl : lo ≤ hi) (r : List Nat) : pSpan (pbL lo ++ 45 :: (pbL hi ++ r)) = .ok (lo, hi) r := by
  rw [pSpan, pMember_pb h1]
  simp only
  rw [pMember_pb h2]
  simp only
  rw [if_neg (by omega)]
theorem spL_head (xs : List (Nat × Nat)) (r : List Nat) : (spL xs ++ 93 :: r).head? ≠ some 45 ∧ (spL xs ++ 93 :: r).head? ≠ some 94 ∧ (xs ≠ [] → (spL xs ++ 93 :: r).head? ≠ some 93) := by
  cases xs with
  | nil => simp [spL]
  | cons x xs =>
    obtain ⟨y, t, hx, _⟩ := pb_head x.1
    obtain ⟨_, _, _, _, _, _, n1, n2, n3, _⟩ := pb_free hx
    rw [spL, hx]
    simp [n1, n2, n3]
theorem spans_pr (r : List Nat) : ∀ (xs : List (Nat × Nat)) (first : Bool) (q : Nat → Bool), (∀ x ∈ xs, x.1 ≤ x.2 ∧ x.2 < 256) → (first = true → xs ≠ []) →
    PR (.spans first q) (spL xs ++ 93 :: r) (.ok (.set (st fun c => q c || xs.any fun x => decide (x.1 ≤ c) && decide (c ≤ x.2))) (93 :: r)) := by
  intro xs
  induction xs with
  | nil =>
    intro first q _ hf
    have : first = false := by cases first; rfl; exact absurd rfl (hf rfl)
    subst this
    have := PR.spans0 (p := q) (l := spL [] ++ 93 :: r) rfl
    have e : (fun c => q c || ([] : List (Nat × Nat)).any fun x => decide (x.1 ≤ c) && decide (c ≤ x.2)) = q := by funext c; simp
    rw [e]
    exact this
  | cons x xs ih =>
    intro first q hx hf
    obtain ⟨h1, h2⟩ := hx x (by simp)
    have hh := spL_head (x :: xs) r
    have hi := ih false (fun c => q c || (decide (x.1 ≤ c) && decide (c ≤ x.2))) (fun y hy => hx y (by simp [hy])) (fun h => by cases h)
    have e : (fun c => (q c || (decide (x.1 ≤ c) && decide (c ≤ x.2))) || xs.any fun x => decide (x.1 ≤ c) && decide (c ≤ x.2)) = fun c => q c || (x :: xs).any fun x => decide (x.1 ≤ c) && decide (c ≤ x.2) := by
      funext c
      rw [List.any_cons, Bool.or_assoc]
    rw [e] at hi
    refine PR.spans1 (fun _ => hh.2.2 (by simp)) ?_ hi
    rw [spL]
    by_cases he : x.1 = x.2
    · rw [if_pos he, List.nil_append, List.append_assoc]
      have := pSpan_1 (c := x.1) (by omega) (spL_head xs r).1
      rw [this, ← he]
    · rw [if_neg he]
      simp only [List.append_assoc, List.cons_append]
      exact pSpan_2 (by omega) h2 h1 _
theorem clsHead_no {l : List Nat} (h : l.head? ≠ some 94) : clsHead l = (false, l) := by
  match l, h with
  | [], _ => rfl
  | 94 :: l, h => exact absurd rfl h
  | x :: l, h =>
    have : x ≠ 94 := fun e => h (by rw [e]; rfl)
    unfold clsHead
    split
    · next he => simp only [List.cons.injEq] at he; exact absurd he.1 this
    · rfl
theorem sp_le : ∀ (r : List Nat) (lo hi : Nat), lo ≤ hi → ∀ x ∈ spn lo hi r, x.1 ≤ x.2
  | [], lo, hi, h, x, hx => by simp [spn] at hx; subst hx; exact h
  | b :: r, lo, hi, h, x, hx => by
    simp only [spn] at hx
    split at hx
    · exact sp_le r lo b (by omega) x hx
    · rcases List.mem_cons.1 hx with rfl | hx
      · exact h
      · exact sp_le r b b (Nat.le_refl _) x hx
theorem spans0_le (l : List Nat) : ∀ x ∈ spans0 l, x.1 ≤ x.2 := by
  cases l with
  | nil => intro x hx; simp [spans0] at hx
  | cons b r => exact sp_le r b b (Nat.le_refl _)
theorem els_one {p : Nat → Bool} {c : Nat} (h : els p = [c]) : st (fun x => x == c) = st p := by
  refine st_congr fun b hb => ?_
  have : b ∈ els p ↔ b < 256 ∧ p b = true := mem_els
  rw [h, List.mem_singleton] at this
  rw [Bool.eq_iff_iff, beq_iff_eq, this]
  simp [hb]
theorem els_none {p : Nat → Bool} (h : els p = []) : st p = z4 := by
  show st p = (⟨0, 0, 0, 0⟩ : Arr4)
  rw [st_none]
  refine st_congr fun b hb => ?_
  have : b ∈ els p ↔ b < 256 ∧ p b = true := mem_els
  rw [h] at this
  cases hp : p b with
  | false => rfl
  | true => exact absurd (this.2 ⟨hb, hp⟩) (by simp)
theorem atom_set (p : Nat → Bool) (hp : st p ≠ z4) (n : Nat) (r : List Nat) : PR (.atom n) (setL p ++ r) (.ok (.set (st p)) r) := by
  have rest : ∀ l, els p = l → (∀ c, l ≠ [c]) → PR (.atom n) ((if (st p).same (st fun c => !(c == 10)) = true then [46] else 91 :: (spL (spans0 l) ++ [93])) ++ r) (.ok (.set (st p)) r) := by
    intro l hl hne
    by_cases hs : (st p).same (st fun c => !(c == 10)) = true
    · rw [if_pos hs, (same_iff _ _).1 hs]
      have := PR.atomL (n := n) (l := 46 :: r) (by simp) (by simp)
      rwa [pLeaf, if_pos rfl] at this
    · rw [if_neg hs]
      have hne0 : spans0 l ≠ [] := by
        cases l with
        | nil => exact absurd (els_none hl) hp
        | cons b r => exact sp_ne r b b
      have h1 := spans_pr r (spans0 l) true (fun _ => false) (fun x hx => ⟨spans0_le l x hx, by rw [← hl] at hx; exact (spans0_lt p x hx).2⟩) (fun _ => hne0)
      have e : st (fun c => false || (spans0 l).any fun x => decide (x.1 ≤ c) && decide (c ≤ x.2)) = st p := by
        refine st_congr fun b hb => ?_
        have := spans_any p b hb
        rw [hl] at this
        rw [← this, Bool.false_or, List.any_map]
        rfl
      rw [e] at h1
      have hc := clsHead_no (spL_head (spans0 l) r).2.1
      have h2 := PR.atomC1 (n := n) (l := spL (spans0 l) ++ 93 :: r) (p := p) (c := 93) (r := r) (by rw [hc]; exact h1) (by rw [hc]; exact hp)
      rw [hc] at h2
      have e2 : notS false p = p := by funext c; simp [notS]
      simp only [e2] at h2
      simpa using h2
  rw [setL]
  cases hq : els p with
  | nil => exact rest [] hq (by simp)
  | cons c l =>
    cases l with
    | nil =>
      have hc : c < 256 := (mem_els.1 (by rw [hq]; simp : c ∈ els p)).1
      rw [setB, ← els_one hq]
      exact atom_pb hc n r
    | cons d l => exact rest (c :: d :: l) hq (by simp)
theorem alone {l : List Nat} {t : Pt} (n : Nat) (hs : stopN l = false) (h : PR (.atom n) l (.ok t [])) : PR (.alt n) l (.ok t []) := by
  have h1 : PR (.item n) l (.ok t []) := .item1 h (.itemR0 rfl)
  have h2 : PR (.rowR n) l (.ok (.cons t .nil) []) := .rowR1 hs h1 (.rowR0 rfl)
  exact .alt1 (.row1 h2) (.altR0 (by simp))
theorem stop_pb (c : Nat) (r : List Nat) : stopN (pbL c ++ r) = false := by
  obtain ⟨x, t, hx, _⟩ := pb_head c
  obtain ⟨_, _, _, _, _, _, _, _, _, n1, n2, _⟩ := pb_free hx
  rw [hx, List.cons_append, stopN]
  simp [n1, n2]
theorem stop_set (p : Nat → Bool) (r : List Nat) : stopN (setL p ++ r) = false := by
  have rest : ∀ l : List Nat, stopN ((if (st p).same (st fun c => !(c == 10)) = true then [46] else 91 :: (spL (spans0 l) ++ [93])) ++ r) = false := fun l => by split <;> rfl
  rw [setL]
  cases hq : els p with
  | nil => exact rest []
  | cons c l =>
    cases l with
    | nil => exact stop_pb c r
    | cons d l => exact rest (c :: d :: l)
theorem setL_lt (p : Nat → Bool) : ∀ c ∈ setL p, c < 256 := by
  have hsp : ∀ xs : List (Nat × Nat), (∀ x ∈ xs, x.1 < 256 ∧ x.2 < 256) → ∀ c ∈ spL xs, c < 256 := by
    intro xs
    induction xs with
    | nil => intro _ c hc; simp [spL] at hc
    | cons x xs ih =>
      intro hx c hc
      obtain ⟨h1, h2⟩ := hx x (by simp)
      rw [spL] at hc
      rcases List.mem_append.1 hc with h | h
      · exact pbL_lt h1 c h
      · rcases List.mem_append.1 h with h | h
        · split at h
          · simp at h
          · rcases List.mem_cons.1 h with rfl | h
            · decide
            · exact pbL_lt h2 c h
        · exact ih (fun y hy => hx y (by simp [hy])) c h
  have rest : ∀ c ∈ (if (st p).same (st fun c => !(c == 10)) = true then [46] else 91 :: (spL (spans0 (els p)) ++ [93])), c < 256 := by
    intro c hc
    split at hc
    · rw [List.mem_singleton.1 hc]; decide
    · rcases List.mem_cons.1 hc with rfl | h
      · decide
      · rcases List.mem_append.1 h with h | h
        · exact hsp _ (spans0_lt p) c h
        · rw [List.mem_singleton.1 h]; decide
  intro c hc
  rw [setL] at hc
  cases hq : els p with
  | nil => rw [hq] at hc rest; exact rest c hc
  | cons d l =>
    rw [hq] at hc rest
    cases l with
    | nil => exact pbL_lt (mem_els.1 (by rw [hq]; simp : d ∈ els p)).1 c hc
    | cons e l => exact rest c hc
theorem Parse_atom (K : Nat) (hK : 6000 ≤ K) {l : List Nat} {s : Arr4} (hl : ∀ c ∈ l, c < 256) (hn : l.length ≤ 1024) (hs : stopN l = false) (h : PR (.atom 64) l (.ok (.set s) [])) : sy_Parse K (toB l) = some ([⟨2, s, [], 0, 0, ⟨#[]⟩⟩], 0, 0) := by
  have h1 := alone 64 hs h
  rw [← bs_toB hl] at h1
  rw [Parse_ok K hK (by rw [toB_size]; exact hn) h1, out_ok _ (show ¬ 1024 < (Pt.set s).sz by show ¬ 1024 < 1; decide)]
  rfl
theorem shown_7000 : l5_shown 7000 = some true := by decide +kernel
theorem Sets_plain (p : Nat → Bool) (c : Nat) (hc : c < 256) : l5_PrintSets 7000 (st p) (c : Int) = some true := by
  have hK : 1100 ≤ 7000 := by decide
  rw [l5_PrintSets, shown_7000, Option.bind_some, show (Arr4.mk 0 0 0 0) = z4 from rfl]
  by_cases h0 : st p = z4
  · rw [(same_iff _ _).2 h0, cond_true, cond_true, Set_ok 7000 hK p, Option.bind_some, l5_PrintSets_j0]
    have he : els p = [] := by
      rw [List.eq_nil_iff_forall_not_mem]
      intro b hb
      obtain ⟨h1, h2⟩ := mem_els.1 hb
      have h3 : st p = st fun _ => false := h0.trans st_none
      rw [st_inj h3 b h1] at h2
      cases h2
    have hs : (st p).same (st fun c => !(c == 10)) = false := by
      rw [← Bool.not_eq_true, same_iff]
      intro h
      have h3 : st p = st fun _ => false := h0.trans st_none
      have := st_inj (h3.symm.trans h) 0 (by decide)
      cases this
    have : setL p = [91, 93] := by rw [setL, he, hs]; rfl
    rw [this]
    exact congrArg some (by decide +kernel)
  · have hs : (st p).same z4 = false := by rw [← Bool.not_eq_true, same_iff]; exact h0
    have ho : r1_Of 7000 [(c : Int)] = some (st fun x => ([c] : List Nat).contains x) := rOf_spec 7000 [c] (by simpa using hc) (show 1 < _ by decide) (show 1 < 7000 by decide)
    have e1 : (st fun x => ([c] : List Nat).contains x) = st fun x => x == c := st_congr fun b _ => by rw [Bool.eq_iff_iff]; simp
    rw [e1] at ho
    have hp1 := Parse_atom 7000 (by decide) (pbL_lt hc) (by have := pbL_len hc; omega) (by simpa using stop_pb c []) (by simpa using atom_pb hc 64 [])
    have hels : els (fun x => x == c) = [c] := by
      have h1 : (els fun x => x == c).Pairwise (· < ·) := els_sorted _
      have hm : ∀ b, b ∈ els (fun x => x == c) ↔ b = c := fun b => by rw [mem_els]; simp only [beq_iff_eq]; constructor; exact fun h => h.2; exact fun h => ⟨by omega, h⟩
      cases hq : els fun x => x == c with
      | nil => rw [hq] at hm; exact absurd ((hm c).2 rfl) (by simp)
      | cons a l =>
        rw [hq] at hm h1
        have ha : a = c := (hm a).1 (by simp)
        cases l with
        | nil => rw [ha]
        | cons b l =>
          have hb : b = c := (hm b).1 (by simp)
          have := List.rel_of_pairwise_cons h1 (show b ∈ b :: l by simp)
          omega
    have hset1 : print_Set 7000 (st fun x => x == c) = some (toB (pbL c)) := by
      rw [Set_ok 7000 hK, setL, hels, setB]
    have hone : ∀ n ∈ [({ Op := 2, S := st fun x => x == c, L := [], Lo := 0, Hi := 0, Name := ⟨#[]⟩ } : aNd)], n.L.length < 7000 ∧ n.L.length ≤ 9223372036854775807 := fun n hn => by rw [List.mem_singleton.1 hn]; exact ⟨show 0 < 7000 by decide, show 0 ≤ 9223372036854775807 by decide⟩
    have hone2 : ∀ n ∈ [({ Op := 2, S := st p, L := [], Lo := 0, Hi := 0, Name := ⟨#[]⟩ } : aNd)], n.L.length < 7000 ∧ n.L.length ≤ 9223372036854775807 := fun n hn => by rw [List.mem_singleton.1 hn]; exact ⟨show 0 < 7000 by decide, show 0 ≤ 9223372036854775807 by decide⟩
    have hsame1 := Same_ok 7000 [({ Op := 2, S := st fun x => x == c, L := [], Lo := 0, Hi := 0, Name := ⟨#[]⟩ } : aNd)] [({ Op := 2, S := st fun x => x == c, L := [], Lo := 0, Hi := 0, Name := ⟨#[]⟩ } : aNd)] ⟨show 1 < 7000 by decide, show 1 ≤ 9223372036854775807 by decide⟩ hone
    have hsame2 := Same_ok 7000 [({ Op := 2, S := st p, L := [], Lo := 0, Hi := 0, Name := ⟨#[]⟩ } : aNd)] [({ Op := 2, S := st p, L := [], Lo := 0, Hi := 0, Name := ⟨#[]⟩ } : aNd)] ⟨show 1 < 7000 by decide, show 1 ≤ 9223372036854775807 by decide⟩ hone2
    rw [decide_eq_true rfl] at hsame1 hsame2
    have hg : geti [({ Op := 2, S := st fun x => x == c, L := [], Lo := 0, Hi := 0, Name := ⟨#[]⟩ } : aNd)] (0 : Int) = some { Op := 2, S := st fun x => x == c, L := [], Lo := 0, Hi := 0, Name := ⟨#[]⟩ } := rfl
    rw [hs, cond_false, ho, Option.bind_some, Byte_ok hc (by decide), Option.bind_some, hp1, Option.bind_some, Set_ok 7000 hK p, Option.bind_some]
    by_cases hlong : 1024 < (setL p).length
    · rw [Parse_long 7000 (by rw [toB_size]; exact hlong), Option.bind_some]
      simp only [cond_true, show ((0 : Int) == 0) = true from rfl, show ((3 : Int) == 0) = false from rfl, hsame1, Option.bind_some, cond_false]
      rw [hg, Option.bind_some, hset1, Option.bind_some, beq_self_eq_true, cond_true, toB_size, decide_eq_true (by omega)]
    · have hp2 := Parse_atom 7000 (by decide) (setL_lt p) (by omega) (by simpa using stop_set p []) (by simpa using atom_set p h0 64 [])
      rw [hp2, Option.bind_some]
      simp only [cond_true, show ((0 : Int) == 0) = true from rfl, hsame1, hsame2, Option.bind_some]
      rw [hg, Option.bind_some, hset1, Option.bind_some, beq_self_eq_true, cond_true]
end Go.Rv

/- The parser, plainly, 5: it answers what the text is read as. -/
import Derived.Test.YtbepeoipaiahgaaRpSL
namespace Go.Rv
/-- Something was wrong: where, and what; nodes are no more than told. -/
def OutE (s : ByteArray) (ns : List api_Node) (d : Int) (l : List Nat) (c k : Nat) (x : List Nat) (f : Option (Int × syntax_parser)) : Prop :=
  ∃ (a : Int) (i' : Nat) (ns' : List api_Node), f = some (a, pst s (i' : Int) ((s.size - x.length : Nat) : Int) k ns' d) ∧ i' ≤ s.size ∧ ns'.length ≤ ns.length + 4 * l.length + c
def Out (s : ByteArray) (ns : List api_Node) (d w : Int) (l : List Nat) (c : Nat) (f : Option (Int × syntax_parser)) : Re Pt → Prop
  | .ok t r => f = some (((ns.length + t.sz : Nat) : Int) - 1, pst s ((s.size - r.length : Nat) : Int) w 0 (ns ++ t.flat ns.length) d)
  | .err k x => OutE s ns d l c k x f
abbrev dp (n : Nat) : Int := (64 : Int) - (n : Int)
def Sim (K : Nat) (s : ByteArray) : Goal → List Nat → Re Pt → Prop
  | .alt n, l, res => ∀ (m i : Nat) (w : Int) (ns : List api_Node), (n < m ∧ n ≤ 64) → At s i l → ns.length + 4 * l.length ≤ 50000 → Out s ns (dp n) w l 4 (syntax_parser_alternative_r K m (pst s i w 0 ns (dp n))) res
  | .row n, l, res => ∀ (m i : Nat) (w : Int) (ns : List api_Node), (n ≤ m ∧ n ≤ 64) → At s i l → ns.length + 4 * l.length ≤ 50000 → Out s ns (dp n) w l 2 (syntax_parser_row K (syntax_parser_alternative_r K m) (pst s i w 0 ns (dp n))) res
  | .item n, l, res => ∀ (m i : Nat) (w : Int) (ns : List api_Node), (n ≤ m ∧ n ≤ 64) → At s i l → ns.length + 4 * l.length ≤ 50000 → Out s ns (dp n) w l 1 (syntax_parser_item K (syntax_parser_alternative_r K m) (pst s i w 0 ns (dp n))) res
  | .atom n, l, res => ∀ (m i : Nat) (w : Int) (ns : List api_Node), (n ≤ m ∧ n ≤ 64) → At s i l → ns.length + 4 * l.length ≤ 50000 → Out s ns (dp n) w l 1 (syntax_parser_atom K (syntax_parser_alternative_r K m) (pst s i w 0 ns (dp n))) res
  | .rowR n, l, res => ∀ (m i : Nat) (w : Int) (ns : List api_Node) (acc : List Int) (k : Nat), (n ≤ m ∧ n ≤ 64) → At s i l → ns.length + 4 * l.length ≤ 50000 → acc.length + l.length ≤ 5000 → l.length + 1 < k →
      match res with
      | .ok f r => syntax_parser_row_l0 K (syntax_parser_alternative_r K m) k s i w 0 (dp n) ns acc = syntax_parser_row_j1 K (syntax_parser_alternative_r K m) s ((s.size - r.length : Nat) : Int) w 0 (dp n) (ns ++ f.flat ns.length) (acc ++ f.roots ns.length)
      | .err kk x => OutE s ns (dp n) l 2 kk x (syntax_parser_row_l0 K (syntax_parser_alternative_r K m) k s i w 0 (dp n) ns acc)
  | .altR n, l, res => ∀ (m i : Nat) (w : Int) (ns : List api_Node) (acc : List Int) (k : Nat), (n ≤ m ∧ n ≤ 64) → At s i l → ns.length + 4 * l.length ≤ 50001 → acc.length + l.length ≤ 5000 → l.length + 1 < k →
      match res with
      | .ok f r => syntax_parser_alternative_l0 K (syntax_parser_alternative_r K m) k s i w 0 (dp n) ns acc = syntax_parser_join K (pst s ((s.size - r.length : Nat) : Int) w 0 (ns ++ f.flat ns.length) (dp n)) 4 (acc ++ f.roots ns.length)
      | .err kk x => OutE s ns (dp n) l 3 kk x (syntax_parser_alternative_l0 K (syntax_parser_alternative_r K m) k s i w 0 (dp n) ns acc)
  | .itemR t0, l, res => ∀ (rc : syntax_parser → Option (Int × syntax_parser)) (i : Nat) (w d : Int) (ns0 : List api_Node) (k : Nat), At s i l → ns0.length + t0.sz + 4 * l.length ≤ 50000 → l.length + 1 < k →
      match res with
      | .ok t r => syntax_parser_item_l0 K rc k (((ns0.length + t0.sz : Nat) : Int) - 1) s i w 0 d (ns0 ++ t0.flat ns0.length) = some (((ns0.length + t.sz : Nat) : Int) - 1, pst s ((s.size - r.length : Nat) : Int) w 0 (ns0 ++ t.flat ns0.length) d)
      | .err kk x => OutE s (ns0 ++ t0.flat ns0.length) d l 1 kk x (syntax_parser_item_l0 K rc k (((ns0.length + t0.sz : Nat) : Int) - 1) s i w 0 d (ns0 ++ t0.flat ns0.length))
  | .spans _ _, _, _ => True
theorem z4_same (a : Arr4) : Arr4.same a ⟨0, 0, 0, 0⟩ = decide (a = z4) := by
  rw [Bool.eq_iff_iff, same_iff, decide_eq_true_eq]
section
variable (K : Nat) {s : ByteArray} {i : Nat} {w : Int} {ns : List api_Node} {d : Int}
theorem notC (hK : 1200 ≤ K) (neg : Bool) (q : Nat → Bool) {β : Type} (f : Arr4 → Option β) : (bif neg then (bset_Not K (st q)).bind f else f (st q)) = f (st (notS neg q)) := by
  cases neg with
  | false => rfl
  | true => simp only [cond_true, Not_spec K (by omega), Option.bind_some]; rfl
theorem cls2_ok (hK : 1200 ≤ K) {c : Nat} {r : List Nat} (h : At s i (c :: r)) (neg : Bool) (q : Nat → Bool) (y2 : Arr4) : syntax_reader_class_j2 K neg s i w 0 d ns y2 (st q) = if st (notS neg q) = z4 then some (st (notS neg q), pst s i (i : Int) 44 ns d) else some (st (notS neg q), pst s ((i + 1 : Nat) : Int) w 0 ns d) := by
  rw [syntax_reader_class_j2, notC K hK neg q (fun v => syntax_reader_class_j3 K s i w 0 d ns y2 v), syntax_reader_class_j3, z4_same]
  by_cases hz : st (notS neg q) = z4
  · rw [decide_eq_true hz, if_pos hz]
    simp only [cond_true, fail_ok, Option.bind_some, syntax_reader_class_j4]
    rw [next_bad K (e := 44) (by decide), Option.bind_some]
  · rw [decide_eq_false hz, if_neg hz]
    simp only [cond_false, syntax_reader_class_j4]
    rw [next_cons K h, Option.bind_some]
theorem cls2_bad (hK : 1200 ≤ K) {i e : Int} (he : e ≠ 0) (neg : Bool) (q : Nat → Bool) (y2 : Arr4) : ∃ S, syntax_reader_class_j2 K neg s i w e d ns y2 (st q) = some (S, pst s i w e ns d) := by
  refine ⟨st (notS neg q), ?_⟩
  rw [syntax_reader_class_j2, notC K hK neg q (fun v => syntax_reader_class_j3 K s i w e d ns y2 v), syntax_reader_class_j3]
  cases Arr4.same (st (notS neg q)) ⟨0, 0, 0, 0⟩ with
  | true => simp only [cond_true, fail_bad K he, Option.bind_some, syntax_reader_class_j4, next_bad K he]
  | false => simp only [cond_false, Option.bind_some, syntax_reader_class_j4, next_bad K he]
/-- A class: its head. -/
theorem class_head {l : List Nat} (h : At s i (91 :: l)) (hK : 1200 ≤ K) : ∃ i' : Nat, At s i' (clsHead l).2 ∧ i < i' ∧ syntax_reader_class K (pst s i w 0 ns d) = syntax_reader_class_l0 K K (clsHead l).1 true s i' w 0 d ns z4 (st fun _ => false) := by
  have ht := h.tail
  rw [syntax_reader_class, next_cons K h, Option.bind_some]
  simp only
  by_cases hh : l.head? = some 94
  · obtain ⟨r, rfl⟩ : ∃ r, l = 94 :: r := by
      cases l with
      | nil => cases hh
      | cons c r => simp at hh; exact ⟨r, by rw [hh]⟩
    rw [show (94 : Int) = ((94 : Nat) : Int) from rfl, skip_yes K ht, Option.bind_some]
    refine ⟨i + 1 + 1, ht.tail, by omega, ?_⟩
    rw [← st_none]
    rfl
  · rw [show (94 : Int) = ((94 : Nat) : Int) from rfl, skip_no K ht hh, Option.bind_some]
    have hc : clsHead l = (false, l) := by
      unfold clsHead
      split
      · exact absurd rfl hh
      · rfl
    rw [hc]
    refine ⟨i + 1, ht, by omega, ?_⟩
    rw [← st_none]
theorem row_j1_any (rc : syntax_parser → Option (Int × syntax_parser)) (i w e d : Int) (ns : List api_Node) (acc : List Int) (hn : ns.length ≤ 100000) : ∃ a ns', syntax_parser_row_j1 K rc s i w e d ns acc = some (a, pst s i w e ns' d) ∧ ns'.length ≤ ns.length + 1 := by
  rw [syntax_parser_row_j1]
  cases ((acc.length : Int) == 0) with
  | true => exact ⟨(ns.length : Int), ns ++ [_], by simp only [cond_true]; rw [put_ok K (pst s i w e ns d) _ hn]; rfl, by simp⟩
  | false =>
    simp only [cond_false]
    by_cases h1 : acc.length = 1
    · obtain ⟨a, rfl⟩ : ∃ a, acc = [a] := List.length_eq_one_iff.1 h1
      exact ⟨a, ns, by rw [join_one]; rfl, by omega⟩
    · exact ⟨(ns.length : Int), ns ++ [_], by rw [join_ok K (pst s i w e ns d) 3 acc h1 hn]; rfl, by simp⟩
theorem row_l0_bad (rc : syntax_parser → Option (Int × syntax_parser)) (i w e d : Int) (he : e ≠ 0) (ns : List api_Node) (acc : List Int) (hn : ns.length ≤ 100000) (k : Nat) (hk : 0 < k) : ∃ a ns', syntax_parser_row_l0 K rc k s i w e d ns acc = some (a, pst s i w e ns' d) ∧ ns'.length ≤ ns.length + 1 := by
  obtain ⟨k, rfl⟩ : ∃ k', k = k' + 1 := ⟨k - 1, by omega⟩
  rw [syntax_parser_row_l0]
  dsimp only
  rw [peek_bad K he, Option.bind_some]
  exact row_j1_any K rc i w e d ns acc hn
theorem alt_l0_bad (rc : syntax_parser → Option (Int × syntax_parser)) (i w e d : Int) (he : e ≠ 0) (ns : List api_Node) (acc : List Int) (hn : ns.length ≤ 100000) (k : Nat) (hk : 0 < k) : ∃ a ns', syntax_parser_alternative_l0 K rc k s i w e d ns acc = some (a, pst s i w e ns' d) ∧ ns'.length ≤ ns.length + 1 := by
  obtain ⟨k, rfl⟩ : ∃ k', k = k' + 1 := ⟨k - 1, by omega⟩
  rw [syntax_parser_alternative_l0]
  dsimp only
  rw [skip_bad K he, Option.bind_some]
  simp only [cond_false]
  by_cases h1 : acc.length = 1
  · obtain ⟨a, rfl⟩ : ∃ a, acc = [a] := List.length_eq_one_iff.1 h1
    exact ⟨a, ns, by rw [join_one]; rfl, by omega⟩
  · exact ⟨(ns.length : Int), ns ++ [_], by rw [join_ok K (pst s i w e ns d) 4 acc h1 hn]; rfl, by simp⟩
theorem item_l0_bad (rc : syntax_parser → Option (Int × syntax_parser)) (a i w e d : Int) (he : e ≠ 0) (ns : List api_Node) (k : Nat) (hk : 0 < k) : syntax_parser_item_l0 K rc k a s i w e d ns = some (a, pst s i w e ns d) := by
  obtain ⟨k, rfl⟩ : ∃ k', k = k' + 1 := ⟨k - 1, by omega⟩
  rw [syntax_parser_item_l0]
  dsimp only
  rw [times_bad K he, Option.bind_some]
  rfl
theorem eqn (c m : Nat) : ((c : Int) == (m : Int)) = decide (c = m) := by
  rw [Bool.eq_iff_iff, beq_iff_eq, decide_eq_true_eq]; omega
theorem nen (c m : Nat) : ((c : Int) != (m : Int)) = !decide (c = m) := by
  rw [bne, eqn]
/-- An atom that is a byte or an escape. -/
theorem j2_ok (hK : 1200 ≤ K) (rc : syntax_parser → Option (Int × syntax_parser)) {l : List Nat} (h : At s i l) (hn : ns.length + 4 * l.length ≤ 50000) : Out s ns d w l 1 (syntax_parser_atom_j2 K rc (pst s i w 0 ns d)) (match pOne l with
      | .ok b r => .ok (.set (st fun x => x == b)) r
      | .err k w => .err k w) := by
  have h1 := one_ok (w := w) (ns := ns) (d := d) K h
  rw [syntax_parser_atom_j2]
  cases hq : pOne l with
  | ok b r =>
    rw [hq] at h1
    simp only [RdN] at h1
    rw [h1.1, Option.bind_some]
    simp only
    rw [Of1 K (by omega) b h1.2.1, Option.bind_some, bytes_ok K _ _ (by simp only; omega), Option.bind_some]
    simp only [Out, Pt.sz, Pt.flat]
    congr 2
    omega
  | err k x =>
    rw [hq] at h1
    simp only [RdN] at h1
    obtain ⟨⟨b, i', e1, hb, h2, h3⟩, h4⟩ := h1
    rw [e1, Option.bind_some]
    simp only
    rw [Of1 K (by omega) b hb, Option.bind_some, bytes_ok K _ _ (by simp only; omega), Option.bind_some]
    exact ⟨_, i', _, rfl, h3, by simp only [List.length_append, List.length_cons, List.length_nil]; omega⟩
theorem leaf_ok (hK : 1200 ≤ K) (rc : syntax_parser → Option (Int × syntax_parser)) {l : List Nat} (h : At s i l) (hn : ns.length + 4 * l.length ≤ 50000) (h40 : l.head? ≠ some 40) (h91 : l.head? ≠ some 91) : Out s ns d w l 1 (syntax_parser_atom K rc (pst s i w 0 ns d)) (pLeaf l) := by
  have hj2 := j2_ok (w := w) (ns := ns) (d := d) K hK rc h hn
  have hl := h.len
  rw [syntax_parser_atom]
  cases l with
  | nil =>
    rw [peek_nil K h, Option.bind_some]
    have e1 : ((0 : Int) == 40) = false := rfl
    have e2 : ((0 : Int) == 91) = false := rfl
    have e3 : ((0 : Int) == 46) = false := rfl
    have e4 : ((0 : Int) == 123) = false := rfl
    have e5 : ((0 : Int) == 47) = false := rfl
    have e6 : ((0 : Int) == 36) = false := rfl
    have e7 : ((0 : Int) != 92) = true := rfl
    obtain ⟨e8, e9⟩ := sspec K 0 (by decide)
    have e8' := e8
    simp only [Int.ofNat_zero, show ((0 : Nat) : Int) = 0 from rfl] at e8' e9
    simp only [e1, e2, e3, e4, cond_false, syntax_parser_atom_j0, e5, e6, e7, cond_true]
    rw [e8', Option.bind_some, e9]
    exact hj2
  | cons c r =>
    have hc := h.c256
    have ht := h.tail
    have htl := ht.len
    simp only [List.length_cons] at hl hn
    have hp1 : i + 1 = s.size - r.length := by omega
    simp only [List.head?_cons, ne_eq, Option.some.injEq] at h40 h91
    rw [peek_cons K h, Option.bind_some]
    have e1 : ((c : Int) == 40) = false := by rw [show (40 : Int) = ((40 : Nat) : Int) from rfl, eqn]; simpa using h40
    have e2 : ((c : Int) == 91) = false := by rw [show (91 : Int) = ((91 : Nat) : Int) from rfl, eqn]; simpa using h91
    have e3 : ((c : Int) == 46) = decide (c = 46) := eqn c 46
    have e4 : ((c : Int) == 123) = decide (c = 123) := eqn c 123
    have e5 : ((c : Int) == 47) = decide (c = 47) := eqn c 47
    have e6 : ((c : Int) == 36) = decide (c = 36) := eqn c 36
    have e7 : ((c : Int) != 92) = !decide (c = 92) := nen c 92
    obtain ⟨e8, e9⟩ := sspec K c hc
    simp only [e1, e2, cond_false, e3]
    have hfail : ∀ k : Nat, Out s ns d w (c :: r) 1 ((syntax_reader_fail K (pst s i w 0 ns d) (k : Int) i).bind fun v => some ((0 : Int), v)) (.err k (c :: r)) := fun k => by
      rw [fail_ok, Option.bind_some]
      refine ⟨0, i, ns, ?_, h.1, by omega⟩
      simp only [List.length_cons, show s.size - (r.length + 1) = i by omega]
    have hrest : ¬ (c = 123 ∧ digNext r = false) → c ≠ 46 → Out s ns d w (c :: r) 1 (syntax_parser_atom_j0 K rc (c : Int) (pst s i w 0 ns d)) (pLeaf (c :: r)) := by
      intro h123 h46
      rw [syntax_parser_atom_j0, e5, e6, e7, e8]
      unfold pLeaf
      simp only [h46, h123, if_false]
      by_cases h47 : c = 47
      · simp only [h47, decide_true, cond_true, true_or, if_true]
        subst h47
        exact hfail 42
      simp only [h47, decide_false, cond_false, false_or]
      by_cases h36 : c = 36
      · simp only [h36, decide_true, cond_true, if_true]
        subst h36
        exact hfail 42
      simp only [h36, decide_false, cond_false, if_false, Option.bind_some, e9]
      by_cases h92 : c = 92
      · simp only [h92, decide_true, Bool.not_true, cond_false, ne_eq, not_true_eq_false, false_and, if_false]
        subst h92
        exact hj2
      simp only [h92, decide_false, Bool.not_false, cond_true, ne_eq, not_false_eq_true, true_and]
      cases hsp : specN c with
      | true => simp only [cond_true, if_true]; exact hfail 41
      | false => simp only [cond_false, Bool.false_eq_true, if_false]; exact hj2
    by_cases h46 : c = 46
    · subst h46
      simp only [decide_true, cond_true, pLeaf, if_true]
      rw [next_cons K h, Option.bind_some]
      have h10 := Of1 K (by omega) 10 (by decide)
      simp only
      rw [show (10 : Int) = ((10 : Nat) : Int) from rfl, h10, Option.bind_some, Not_spec K (by omega), Option.bind_some, bytes_ok K _ _ (by simp only; omega), Option.bind_some]
      simp only [Out, Pt.sz, Pt.flat, hp1]
      congr 2
      omega
    simp only [h46, decide_false, cond_false, e4]
    by_cases h123 : c = 123
    · subst h123
      simp only [decide_true, cond_true]
      rw [dig1 K h, Option.bind_some]
      simp only [List.drop_one, List.tail_cons]
      cases hdg : digNext r with
      | true =>
        simp only [Bool.not_true, cond_false]
        exact hrest (by rw [hdg]; simp) h46
      | false =>
        simp only [Bool.not_false, cond_true]
        have hnm := name_ok (w := w) (ns := ns) (d := d) K h hK
        have hpl : pLeaf (123 :: r) = pName r := by simp [pLeaf, hdg]
        rw [hpl]
        cases hq : pName r with
        | ok t r' =>
          rw [hq] at hnm
          simp only at hnm
          obtain ⟨nm, rfl, e1, hsf⟩ := hnm
          rw [e1, Option.bind_some]
          simp only
          rw [put_ok K _ _ (by simp only; omega), Option.bind_some]
          simp only [Out, Pt.sz, Pt.flat]
          congr 2
          omega
        | err k x =>
          rw [hq] at hnm
          simp only at hnm
          obtain ⟨b, i', e1, h2, h3, h4⟩ := hnm
          rw [e1, Option.bind_some]
          simp only
          rw [put_ok K _ _ (by simp only; omega), Option.bind_some]
          exact ⟨_, i', _, rfl, h3, by simp only [List.length_append, List.length_cons, List.length_nil]; omega⟩
    · simp only [h123, decide_false, cond_false]
      exact hrest (fun hh => h123 hh.1) h46
end
end Go.Rv

/- The parser, plainly, 3: bounds, names, classes, atoms that are no groups. -/
import Derived.Test.YtbepeoipaiahgaaRpSJ
namespace Go.Rv
theorem RdB.mono {s : ByteArray} {ns : List api_Node} {d w : Int} {l l' : List Nat} {i i' : Nat} {f : Option (Int × Int × syntax_parser)} {x : Re (Int × Int)} (h : RdB s ns d w l i f x) (hl : l <:+ l') (hi : i' ≤ i) : RdB s ns d w l' i' f x := by
  cases x with
  | ok x r => exact ⟨h.1, h.2.trans hl⟩
  | err k x =>
    obtain ⟨⟨lo, hi', j, h1, h2, h3⟩, h4⟩ := h
    exact ⟨⟨lo, hi', j, h1, by omega, h3⟩, h4⟩
section
variable (K : Nat) {s : ByteArray} {i : Nat} {w : Int} {ns : List api_Node} {d : Int}
theorem bounds_ok {r : List Nat} (h : At s i (123 :: r)) (hK : 1200 ≤ K) : RdB s ns d w (123 :: r) i (syntax_reader_bounds K (pst s i w 0 ns d)) (pBounds (123 :: r) r) := by
  have hl := h.len
  have ht := h.tail
  simp only [List.length_cons] at hl
  have hx0 : (pst s i w 0 ns d).reader.at_ = ((s.size - (123 :: r).length : Nat) : Int) := by
    simp only [List.length_cons]; omega
  have hw : (123 :: r).length ≤ s.size := by simp only [List.length_cons]; omega
  have hs1 := dropWhile_suf isDig r
  have h2 := ht.suffix hs1
  have hdl := suf_len hs1
  rw [syntax_reader_bounds, next_cons K h, Option.bind_some]
  simp only
  rw [number_ok K ht hK, Option.bind_some]
  simp only
  unfold pBounds
  split
  · rename_i r2 he
    rw [he] at h2 hs1
    rw [he, show (44 : Int) = ((44 : Nat) : Int) from rfl, skip_yes K h2, Option.bind_some]
    simp only [cond_true]
    have h3 := h2.tail
    have hs2 : r2 <:+ 123 :: r := (List.suffix_cons 44 r2).trans (hs1.trans (List.suffix_cons 123 r))
    rw [dig0 K h3, Option.bind_some]
    have hp1 : s.size - (44 :: r2).length + 1 = s.size - r2.length := by
      have := h3.len
      omega
    cases hdg : digNext r2 with
    | true =>
      simp only [cond_true, if_true]
      rw [number_ok K h3 hK, Option.bind_some]
      have hs3 := dropWhile_suf isDig r2
      have h4 := h3.suffix hs3
      have key := fun bad => fin_ok K h4 (wl := 123 :: r) (ns := ns) (d := d) (w := w) (pst s i w 0 ns d) hx0 hw (numV (r.takeWhile isDig)) (numV (r2.takeWhile isDig)) bad
      have hle : i ≤ s.size - (r2.dropWhile isDig).length := by have := suf_len (hs3.trans hs2); simp only [List.length_cons] at this; omega
      by_cases hneg : numV (r.takeWhile isDig) < 0
      · have := key true
        simp only [hneg, decide_true, cond_true, Bool.true_or]
        exact this.mono (hs3.trans hs2) hle
      · have := key (decide (numV (r2.takeWhile isDig) < 0))
        simp only [hneg, decide_false, cond_false, Bool.false_or]
        exact this.mono (hs3.trans hs2) hle
    | false =>
      simp only [cond_false, Bool.false_eq_true, if_false]
      have key := fin_ok K h3 (wl := 123 :: r) (ns := ns) (d := d) (w := w) (pst s i w 0 ns d) hx0 hw (numV (r.takeWhile isDig)) (-1) (decide (numV (r.takeWhile isDig) < 0))
      exact key.mono hs2 (by have := suf_len hs2; simp only [List.length_cons] at this; have := h3.len; omega)
  · rename_i hne
    have hh : (r.dropWhile isDig).head? ≠ some 44 := by
      intro hh
      cases hq : r.dropWhile isDig with
      | nil => rw [hq] at hh; cases hh
      | cons c r' => rw [hq] at hh; simp at hh; subst hh; exact hne r' hq
    rw [show (44 : Int) = ((44 : Nat) : Int) from rfl, skip_no K h2 hh, Option.bind_some]
    simp only [cond_false]
    have key := fin_ok K h2 (wl := 123 :: r) (ns := ns) (d := d) (w := w) (pst s i w 0 ns d) hx0 hw (numV (r.takeWhile isDig)) (numV (r.takeWhile isDig)) (decide (numV (r.takeWhile isDig) < 0))
    exact key.mono (hs1.trans (List.suffix_cons 123 r)) (by omega)
/-- What 'times' answers. -/
def RdT (s : ByteArray) (ns : List api_Node) (d w : Int) (l : List Nat) (i : Nat) (f : Option (Int × Int × Bool × syntax_parser)) : Option (Re (Int × Int)) → Prop
  | none => f = some (0, 0, false, pst s i w 0 ns d)
  | some (.ok x r) => f = some (x.1, x.2, true, pst s ((s.size - r.length : Nat) : Int) w 0 ns d) ∧ r <:+ l
  | some (.err k x) => (∃ (lo hi : Int) (i' : Nat), f = some (lo, hi, true, pst s (i' : Int) ((s.size - x.length : Nat) : Int) k ns d) ∧ i ≤ i' ∧ i' ≤ s.size) ∧ k ≠ 0 ∧ x.length ≤ s.size
theorem times_ok {l : List Nat} (h : At s i l) (hK : 1200 ≤ K) : RdT s ns d w l i (syntax_parser_times K (pst s i w 0 ns d)) (pTimes l) := by
  have hl := h.len
  rw [syntax_parser_times]
  cases l with
  | nil =>
    rw [show (42 : Int) = ((42 : Nat) : Int) from rfl, skip_no K h (by simp), Option.bind_some]
    simp only [cond_false]
    rw [show (43 : Int) = ((43 : Nat) : Int) from rfl, skip_no K h (by simp), Option.bind_some]
    simp only [cond_false]
    rw [show (63 : Int) = ((63 : Nat) : Int) from rfl, skip_no K h (by simp), Option.bind_some]
    simp only [cond_false]
    rw [show (123 : Int) = ((123 : Nat) : Int) from rfl, is_eq K h, Option.bind_some]
    simp only [List.head?_nil, reduceCtorEq, decide_false, cond_false, syntax_parser_times_j0, pTimes, RdT]
  | cons c r =>
    have ht := h.tail
    have hsf : r <:+ c :: r := List.suffix_cons c r
    simp only [List.length_cons] at hl
    have hi1 : i + 1 = s.size - r.length := by omega
    unfold pTimes
    by_cases h1 : c = 42
    · subst h1
      rw [show (42 : Int) = ((42 : Nat) : Int) from rfl, skip_yes K h, Option.bind_some]
      simp only [cond_true, if_true, RdT]
      exact ⟨by rw [hi1], hsf⟩
    rw [show (42 : Int) = ((42 : Nat) : Int) from rfl, skip_no K h (by simpa using h1), Option.bind_some]
    simp only [cond_false, h1, if_false]
    by_cases h2 : c = 43
    · subst h2
      rw [show (43 : Int) = ((43 : Nat) : Int) from rfl, skip_yes K h, Option.bind_some]
      simp only [cond_true, if_true, RdT]
      exact ⟨by rw [hi1], hsf⟩
    rw [show (43 : Int) = ((43 : Nat) : Int) from rfl, skip_no K h (by simpa using h2), Option.bind_some]
    simp only [cond_false, h2, if_false]
    by_cases h3 : c = 63
    · subst h3
      rw [show (63 : Int) = ((63 : Nat) : Int) from rfl, skip_yes K h, Option.bind_some]
      simp only [cond_true, if_true, RdT]
      exact ⟨by rw [hi1], hsf⟩
    rw [show (63 : Int) = ((63 : Nat) : Int) from rfl, skip_no K h (by simpa using h3), Option.bind_some]
    simp only [cond_false, h3, if_false]
    rw [show (123 : Int) = ((123 : Nat) : Int) from rfl, is_eq K h, Option.bind_some]
    by_cases h4 : c = 123
    · subst h4
      simp only [List.head?_cons, decide_true, cond_true, true_and]
      rw [dig1 K h, Option.bind_some]
      simp only [List.drop_one, List.tail_cons]
      cases hdg : digNext r with
      | false =>
        simp only [cond_false, Bool.false_eq_true, if_false, syntax_parser_times_j0, RdT]
      | true =>
        simp only [cond_true, if_true]
        have hb := bounds_ok (ns := ns) (d := d) (w := w) K h hK
        cases hq : pBounds (123 :: r) r with
        | ok x r' =>
          rw [hq] at hb
          simp only [RdB] at hb
          rw [hb.1, Option.bind_some]
          simp only [RdT]
          exact ⟨trivial, hb.2⟩
        | err k x =>
          rw [hq] at hb
          simp only [RdB] at hb
          obtain ⟨⟨lo, hi, i', e1, e2, e3⟩, e4⟩ := hb
          rw [e1, Option.bind_some]
          simp only [RdT]
          exact ⟨⟨lo, hi, i', rfl, e2, e3⟩, e4⟩
    · simp only [List.head?_cons, Option.some.injEq, h4, decide_false, cond_false, false_and, if_false, syntax_parser_times_j0, RdT]
theorem times_bad {i e : Int} (he : e ≠ 0) : syntax_parser_times K (pst s i w e ns d) = some (0, 0, false, pst s i w e ns d) := by
  rw [syntax_parser_times, skip_bad K he, Option.bind_some]
  simp only [cond_false]
  rw [skip_bad K he, Option.bind_some]
  simp only [cond_false]
  rw [skip_bad K he, Option.bind_some]
  simp only [cond_false]
  rw [is_bad K he, Option.bind_some]
  simp only [cond_false, syntax_parser_times_j0]

/- Names. -/
theorem sletter (c : Nat) : syntax_letter K (c : Int) = some (letterN c) := by
  have e95 : ((c : Int) == 95) = (c == 95) := by rw [Bool.eq_iff_iff, beq_iff_eq, beq_iff_eq]; omega
  have g1 : decide ((c : Int) ≥ 97) = decide (97 ≤ c) := by rw [Bool.eq_iff_iff, decide_eq_true_eq, decide_eq_true_eq]; omega
  have g2 : decide ((c : Int) ≤ 122) = decide (c ≤ 122) := by rw [Bool.eq_iff_iff, decide_eq_true_eq, decide_eq_true_eq]; omega
  have g3 : decide ((c : Int) ≥ 65) = decide (65 ≤ c) := by rw [Bool.eq_iff_iff, decide_eq_true_eq, decide_eq_true_eq]; omega
  have g4 : decide ((c : Int) ≤ 90) = decide (c ≤ 90) := by rw [Bool.eq_iff_iff, decide_eq_true_eq, decide_eq_true_eq]; omega
  rw [syntax_letter, letterN, e95, g1, g2, g3, g4]
  cases decide (97 ≤ c) <;> cases decide (c ≤ 122) <;> cases decide (65 ≤ c) <;> cases decide (c ≤ 90) <;> simp
theorem Name_l0 (t : ByteArray) (ht : t.size ≤ 9223372036854775807) : ∀ (m k i : Nat), t.size - i = m → i ≤ t.size → m < k → 0 < i →
    syntax_Name_l0 K k t (t.size : Int) (i : Int) = some (((bs t).drop i).all (fun c => letterN c || isDig c) && decide (t.size ≤ 32)) := by
  intro m
  induction m with
  | zero =>
    intro k i hm hi hk h0
    obtain ⟨k, rfl⟩ : ∃ k', k = k' + 1 := ⟨k - 1, by omega⟩
    rw [syntax_Name_l0]
    dsimp only
    have e1 : decide ((i : Int) < (t.size : Int)) = false := by simp; omega
    have e2 : decide ((t.size : Int) ≥ 1) = true := by simp; omega
    have e3 : decide ((t.size : Int) ≤ 32) = decide (t.size ≤ 32) := by rw [Bool.eq_iff_iff, decide_eq_true_eq, decide_eq_true_eq]; omega
    rw [e1, cond_false, e2, cond_true, e3, List.drop_eq_nil_of_le (by rw [bs_len]; omega)]
    simp
  | succ m ih =>
    intro k i hm hi hk h0
    obtain ⟨k, rfl⟩ : ∃ k', k = k' + 1 := ⟨k - 1, by omega⟩
    have hlt : i < t.size := by omega
    have hlt' : i < (bs t).length := by rw [bs_len]; exact hlt
    rw [syntax_Name_l0]
    dsimp only
    have e1 : decide ((i : Int) < (t.size : Int)) = true := by simp; omega
    have hb : bt t (i : Int) = ((bs t)[i] : Int) := by rw [bt_bs, List.getElem?_eq_getElem hlt']; rfl
    rw [e1, cond_true, ck_pos ⟨by omega, by omega⟩, hb, sletter, Option.bind_some, List.drop_eq_getElem_cons hlt', List.all_cons]
    have e4 : ((i : Int) == 0) = false := by simp; omega
    have hr := ih k (i + 1) (by omega) (by omega) (by omega) (by omega)
    rw [w64s (n := i) (by omega)]
    cases letterN (bs t)[i] with
    | true => simp only [Bool.not_true, cond_false, Bool.true_or, Bool.true_and]; exact hr
    | false =>
      simp only [Bool.not_false, cond_true, e4, cond_false, sdigit, Option.bind_some, Bool.false_or]
      cases isDig (bs t)[i] with
      | true => simp only [Bool.not_true, cond_false, Bool.true_and]; exact hr
      | false => simp only [Bool.not_false, cond_true, Bool.false_and, syntax_Name_j1]
theorem Name_ok (t : ByteArray) (hK : t.size < K) (ht : t.size ≤ 9223372036854775807) : syntax_Name K t = some (nameOk (bs t)) := by
  obtain ⟨k, rfl⟩ : ∃ k', K = k' + 1 := ⟨K - 1, by omega⟩
  have hlen := bs_len t
  rw [syntax_Name, syntax_Name_l0]
  dsimp only
  by_cases h0 : t.size = 0
  · have e1 : decide ((0 : Int) < (t.size : Int)) = false := decide_eq_false (by omega)
    have e2 : decide ((t.size : Int) ≥ 1) = false := decide_eq_false (by omega)
    rw [e1, cond_false, e2, cond_false]
    have : bs t = [] := List.eq_nil_of_length_eq_zero (by omega)
    rw [this]; rfl
  · have e1 : decide ((0 : Int) < (t.size : Int)) = true := decide_eq_true (by omega)
    obtain ⟨c, r, hc⟩ : ∃ c r, bs t = c :: r := by
      cases hq : bs t with
      | nil => rw [hq] at hlen; simp at hlen; omega
      | cons c r => exact ⟨c, r, rfl⟩
    have hb : bt t (0 : Int) = (c : Int) := by
      have := bt_bs t 0
      rw [hc] at this
      exact this
    have hr := Name_l0 (k + 1) t ht (t.size - 1) k 1 rfl (by omega) (by omega) (by omega)
    rw [e1, cond_true, ck_pos (show (0 : Int) ≤ 0 ∧ (0 : Int) < (t.size : Int) from ⟨by omega, by omega⟩), hb, sletter, Option.bind_some]
    have e5 : IntKind.i64.wrap (0 + 1) = ((1 : Nat) : Int) := by decide
    simp only [beq_self_eq_true, cond_true, syntax_Name_j1, e5]
    rw [hr, hc]
    rw [hc] at hlen
    simp only [nameOk, List.all_cons, List.drop_one, List.tail_cons, hlen]
    cases letterN c with
    | true => simp
    | false => simp
theorem idx_take : ∀ (l : List UInt8) (c : Nat), c < 256 → Lib.indexByte l c.toUInt8 = match (l.map UInt8.toNat).dropWhile (fun x => x != c) with | [] => -1 | _ :: _ => ((((l.map UInt8.toNat).takeWhile fun x => x != c).length : Nat) : Int) := by
  intro l
  induction l with
  | nil => intro c _; rfl
  | cons b l ih =>
    intro c hc
    have hbc : (b == c.toUInt8) = (b.toNat == c) := by
      rw [Bool.eq_iff_iff, beq_iff_eq, beq_iff_eq]
      constructor
      · rintro rfl; exact UInt8.toNat_ofNat_of_lt' hc
      · intro h
        apply UInt8.toNat_inj.1
        rw [h]
        exact (UInt8.toNat_ofNat_of_lt' hc).symm
    rw [Lib.indexByte, hbc, ih c hc]
    simp only [List.map_cons, List.dropWhile_cons, List.takeWhile_cons, bne]
    cases hq : b.toNat == c with
    | true => simp
    | false =>
      simp only [Bool.false_eq_true, if_false, Bool.not_false, if_true]
      cases (l.map UInt8.toNat).dropWhile (fun x => !(x == c)) with
      | nil => simp
      | cons a r =>
        simp only [List.length_cons]
        have : ((((l.map UInt8.toNat).takeWhile fun x => !(x == c)).length : Nat) : Int) ≠ -1 := by omega
        simp [this]
theorem put_ok (p : syntax_parser) (n : api_Node) (hn : p.nodes.length ≤ 100000) : syntax_parser_put K p n = some ((p.nodes.length : Int), ⟨p.reader, p.nodes ++ [n], p.deep⟩) := by
  have hr : roomy 96 (p.nodes.length + [n].length) = true := by
    rw [roomy_iff]
    simp only [List.length_cons, List.length_nil, maxLen]
    omega
  rw [syntax_parser_put, ck_pos hr]
  simp only [List.length_append, List.length_cons, List.length_nil]
  rw [w64 (by omega) (by omega)]
  congr 2
  omega
theorem bytes_ok (p : syntax_parser) (x : Arr4) (hn : p.nodes.length ≤ 100000) : syntax_parser_bytes K p x = some ((p.nodes.length : Int), ⟨p.reader, p.nodes ++ [⟨2, x, [], 0, 0, noB⟩], p.deep⟩) := by
  rw [syntax_parser_bytes, put_ok K p _ hn]
  rfl
theorem join_one (p : syntax_parser) (op a : Int) : syntax_parser_join K p op [a] = some (a, p) := by
  rw [syntax_parser_join]
  rfl
theorem join_ok (p : syntax_parser) (op : Int) (l : List Int) (hl : l.length ≠ 1) (hn : p.nodes.length ≤ 100000) : syntax_parser_join K p op l = some ((p.nodes.length : Int), ⟨p.reader, p.nodes ++ [⟨op, z4, l, 0, 0, noB⟩], p.deep⟩) := by
  have e1 : ((l.length : Int) == 1) = false := by simp; omega
  rw [syntax_parser_join, e1, cond_false, put_ok K p _ hn]
  rfl
end
end Go.Rv

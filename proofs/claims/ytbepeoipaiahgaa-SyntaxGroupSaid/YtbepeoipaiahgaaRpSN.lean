/- The parser, plainly, 6: it answers what the text is read as (the induction). -/
import Derived.Test.YtbepeoipaiahgaaRpSM
namespace Go.Rv
theorem stop_peek (K : Nat) {s : ByteArray} {i : Nat} {w d : Int} {ns : List api_Node} {l : List Nat} (h : At s i l) (rc : syntax_parser → Option (Int × syntax_parser)) (acc : List Int) (k : Nat) :
    syntax_parser_row_l0 K rc (k + 1) s i w 0 d ns acc = if stopN l = true then syntax_parser_row_j1 K rc s i w 0 d ns acc else (syntax_parser_item K rc (pst s i w 0 ns d)).bind fun v => (ck (roomy 8 (acc.length + [v.1].length) = true)).bind fun _ => syntax_parser_row_l0 K rc k v.2.reader.s v.2.reader.at_ v.2.reader.where_ v.2.reader.e v.2.deep v.2.nodes (acc ++ [v.1]) := by
  rw [syntax_parser_row_l0]
  dsimp only
  cases l with
  | nil =>
    rw [peek_nil K h, Option.bind_some]
    simp [stopN]
  | cons c r =>
    rw [peek_cons K h, Option.bind_some]
    have e1 : ((c : Int) == 124) = decide (c = 124) := eqn c 124
    have e2 : ((c : Int) == 41) = decide (c = 41) := eqn c 41
    simp only [Bool.not_true, cond_false, e1, e2, stopN]
    by_cases h1 : c = 124
    · simp [h1]
    · by_cases h2 : c = 41
      · simp [h2]
      · simp [h1, h2]
theorem roomy8 {n : Nat} (h : n ≤ 100000) : roomy 8 (n + 1) = true := by
  rw [roomy_iff]
  simp only [maxLen]
  omega
theorem row_end (K : Nat) (rc : syntax_parser → Option (Int × syntax_parser)) (s : ByteArray) (i w d : Int) (ns : List api_Node) (f : Pt) (hn : (ns ++ f.flat ns.length).length ≤ 100000) (hf : f = .nil ∨ ∃ t g, f = .cons t g ∧ (g = .nil ∨ ∃ t' g', g = .cons t' g')) :
    syntax_parser_row_j1 K rc s i w 0 d (ns ++ f.flat ns.length) ([] ++ f.roots ns.length) = some (((ns.length + (joinR f).sz : Nat) : Int) - 1, pst s i w 0 (ns ++ (joinR f).flat ns.length) d) := by
  rw [syntax_parser_row_j1]
  rcases hf with rfl | ⟨t, g, rfl, rfl | ⟨t', g', rfl⟩⟩
  · simp only [Pt.flat, Pt.roots, List.append_nil, joinR, Pt.sz, List.length_nil]
    simp only [show (((0 : Nat) : Int) == 0) = true from rfl, cond_true]
    rw [put_ok K (pst s i w 0 ns d) _ (by simpa [Pt.flat] using hn)]
    simp only [Option.bind_some]
    congr 2
    omega
  · simp only [Pt.flat, Pt.roots, List.append_nil, joinR, Pt.sz, List.nil_append, List.length_cons, List.length_nil]
    simp only [show (((0 + 1 : Nat) : Int) == 0) = false from rfl, cond_false]
    rw [join_one]
    rfl
  · have e1 : (((([] : List Int) ++ (Pt.cons t (.cons t' g')).roots ns.length).length : Nat) : Int) = ((g'.len + 2 : Nat) : Int) := by
      rw [List.nil_append, Pt.roots_len]; rfl
    rw [e1, show (((g'.len + 2 : Nat) : Int) == 0) = false by simp; omega, cond_false]
    rw [join_ok K (pst s i w 0 _ d) 3 _ (by rw [List.nil_append, Pt.roots_len]; simp [Pt.len]) hn]
    simp only [Option.bind_some, joinR, List.nil_append, List.length_append, Pt.flat_len]
    have e2 : (Pt.cat (.cons t (.cons t' g'))).flat ns.length = (Pt.cons t (.cons t' g')).flat ns.length ++ [⟨3, z4, (Pt.cons t (.cons t' g')).roots ns.length, 0, 0, noB⟩] := rfl
    have e3 : (Pt.cat (.cons t (.cons t' g'))).sz = (Pt.cons t (.cons t' g')).sz + 1 := rfl
    rw [e2, e3, List.append_assoc]
    congr 2
    omega
theorem rows_shape {g : Goal} {l : List Nat} {res : Re Pt} (h : PR g l res) : ∀ {n f r}, g = .rowR n ∨ g = .altR n → res = .ok f r → f = .nil ∨ ∃ t g, f = .cons t g ∧ (g = .nil ∨ ∃ t' g', g = .cons t' g') := by
  induction h with
  | altR0 => intro _ _ _ _ h; cases h; exact .inl rfl
  | altR1 _ _ _ ih =>
    intro _ _ _ _ h
    cases h
    refine .inr ⟨_, _, rfl, ?_⟩
    rcases ih (.inr rfl) rfl with h | ⟨t, g, h, _⟩
    · exact .inl h
    · exact .inr ⟨t, g, h⟩
  | rowR0 => intro _ _ _ _ h; cases h; exact .inl rfl
  | rowR1 _ _ _ _ ih =>
    intro _ _ _ _ h
    cases h
    refine .inr ⟨_, _, rfl, ?_⟩
    rcases ih (.inl rfl) rfl with h | ⟨t, g, h, _⟩
    · exact .inl h
    · exact .inr ⟨t, g, h⟩
  | altRE => intro _ _ _ _ h; cases h
  | altRE2 => intro _ _ _ _ h; cases h
  | rowRE => intro _ _ _ _ h; cases h
  | rowRE2 => intro _ _ _ _ h; cases h
  | _ => intro _ _ _ h; rcases h with h | h <;> cases h
theorem sim (K : Nat) (hK : 6000 ≤ K) (s : ByteArray) {g : Goal} {l : List Nat} {res : Re Pt} (h : PR g l res) : Sim K s g l res := by
  induction h with
  | @altE n l k x hp ih =>
    intro m i w ns hm hat hn
    obtain ⟨m, rfl⟩ : ∃ m', m = m' + 1 := ⟨m - 1, by omega⟩
    have hk := hp.suf.2.1
    obtain ⟨a, i', ns', e1, h1, h2⟩ := ih m i w ns (by omega) hat hn
    rw [syntax_parser_alternative_r, syntax_parser_alternative_b, e1, Option.bind_some]
    have hl := hat.len
    have hsm := hat.small
    obtain ⟨b, ns2, e2, h3⟩ := alt_l0_bad K (syntax_parser_alternative_r K m) i' ((s.size - x.length : Nat) : Int) k (dp n) (by omega) ns' [a] (by omega) K (by omega) (s := s)
    exact ⟨b, i', ns2, e2, h1, by omega⟩
  | @altE2 n l t r k x hp hp2 ih ih2 =>
    intro m i w ns hm hat hn
    obtain ⟨m, rfl⟩ : ∃ m', m = m' + 1 := ⟨m - 1, by omega⟩
    have hsh := short hp
    have hsf := hp.suf
    simp only [Short] at hsh
    have hl := hat.len
    have hsm := hat.small
    have e1 := ih m i w ns (by omega) hat hn
    simp only [Out] at e1
    rw [Out, syntax_parser_alternative_r, syntax_parser_alternative_b, e1, Option.bind_some]
    have hat2 := hat.suffix hsf
    have hfl := t.flat_len ns.length
    have e2 := ih2 m _ w (ns ++ t.flat ns.length) [((ns.length + t.sz : Nat) : Int) - 1] K (by omega) hat2 (by rw [List.length_append, hfl]; omega) (by simp; omega) (by omega)
    simp only at e2
    obtain ⟨a, i', ns', e3, h1, h2⟩ := e2
    refine ⟨a, i', ns', e3, h1, ?_⟩
    rw [List.length_append, hfl] at h2
    omega
  | @alt1 n l t r f r' hp hp2 ih ih2 =>
    intro m i w ns hm hat hn
    obtain ⟨m, rfl⟩ : ∃ m', m = m' + 1 := ⟨m - 1, by omega⟩
    have hsh := short hp
    have hsh2 := short hp2
    have hsf := hp.suf
    simp only [Short] at hsh hsh2
    have hl := hat.len
    have hsm := hat.small
    have e1 := ih m i w ns (by omega) hat hn
    simp only [Out] at e1
    rw [Out, syntax_parser_alternative_r, syntax_parser_alternative_b, e1, Option.bind_some]
    have hat2 := hat.suffix hsf
    have hfl := t.flat_len ns.length
    have e2 := ih2 m _ w (ns ++ t.flat ns.length) [((ns.length + t.sz : Nat) : Int) - 1] K (by omega) hat2 (by rw [List.length_append, hfl]; omega) (by simp; omega) (by omega)
    simp only at e2
    simp only
    rw [e2, List.length_append, hfl]
    rcases rows_shape hp2 (.inr rfl) rfl with rfl | ⟨t', g', rfl, _⟩
    · simp only [Pt.flat, Pt.roots, List.append_nil, joinA]
      rw [join_one]
    · have e4 : ((Pt.cons t' g').roots (ns.length + t.sz)).length = g'.len + 1 := by rw [Pt.roots_len]; rfl
      rw [join_ok K _ 4 _ (by simp only [List.length_append, List.length_cons, List.length_nil, e4]; omega) (by simp only [List.length_append, Pt.flat_len]; omega)]
      simp only [joinA, List.length_append, Pt.flat_len]
      have e5 : (Pt.alt (.cons t (.cons t' g'))).flat ns.length = t.flat ns.length ++ (Pt.cons t' g').flat (ns.length + t.sz) ++ [⟨4, z4, (((ns.length + t.sz : Nat) : Int) - 1) :: (Pt.cons t' g').roots (ns.length + t.sz), 0, 0, noB⟩] := rfl
      have e6 : (Pt.alt (.cons t (.cons t' g'))).sz = t.sz + (Pt.cons t' g').sz + 1 := rfl
      rw [e5, e6]
      simp only [List.append_assoc, List.cons_append, List.nil_append]
      congr 2
      omega
  | @altR0 n l hh =>
    intro m i w ns acc k hm hat hn ha hk
    obtain ⟨k, rfl⟩ : ∃ k', k = k' + 1 := ⟨k - 1, by omega⟩
    simp only
    rw [syntax_parser_alternative_l0]
    dsimp only
    rw [show (124 : Int) = ((124 : Nat) : Int) from rfl, skip_no K hat hh, Option.bind_some]
    simp only [cond_false, Pt.flat, Pt.roots, List.append_nil]
    rw [at_end s i l hat]
    cases syntax_parser_join K (pst s ((s.size - l.length : Nat) : Int) w 0 ns (dp n)) 4 acc <;> rfl
  | @altRE n l k x hp ih =>
    intro m i w ns acc kk hm hat hn ha hk
    obtain ⟨kk, rfl⟩ : ∃ k', kk = k' + 1 := ⟨kk - 1, by omega⟩
    have hk0 := hp.suf.2.1
    have hl := hat.len
    have hsm := hat.small
    simp only [List.length_cons] at hl hn ha hk
    obtain ⟨a, i', ns', e1, h1, h2⟩ := ih m (i + 1) w ns hm hat.tail (by omega)
    simp only
    rw [syntax_parser_alternative_l0]
    dsimp only
    rw [show (124 : Int) = ((124 : Nat) : Int) from rfl, skip_yes K hat, Option.bind_some]
    simp only [cond_true]
    rw [e1, Option.bind_some, ck_pos (by simp only [List.length_cons, List.length_nil]; exact roomy8 (by omega))]
    obtain ⟨b, ns2, e2, h3⟩ := alt_l0_bad K (syntax_parser_alternative_r K m) i' ((s.size - x.length : Nat) : Int) k (dp n) (by omega) ns' (acc ++ [a]) (by omega) kk (by omega) (s := s)
    exact ⟨b, i', ns2, e2, h1, by simp only [List.length_cons]; omega⟩
  | @altRE2 n l t r k x hp hp2 ih ih2 =>
    intro m i w ns acc kk hm hat hn ha hk
    obtain ⟨kk, rfl⟩ : ∃ k', kk = k' + 1 := ⟨kk - 1, by omega⟩
    have hsh := short hp
    have hsf := hp.suf
    simp only [Short] at hsh
    have hl := hat.len
    have hsm := hat.small
    simp only [List.length_cons] at hl hn ha hk
    have e1 := ih m (i + 1) w ns hm hat.tail (by omega)
    simp only [Out] at e1
    simp only
    rw [syntax_parser_alternative_l0]
    dsimp only
    rw [show (124 : Int) = ((124 : Nat) : Int) from rfl, skip_yes K hat, Option.bind_some]
    simp only [cond_true]
    rw [e1, Option.bind_some, ck_pos (by simp only [List.length_cons, List.length_nil]; exact roomy8 (by omega))]
    have hfl := t.flat_len ns.length
    have e2 := ih2 m _ w (ns ++ t.flat ns.length) (acc ++ [((ns.length + t.sz : Nat) : Int) - 1]) kk hm (hat.tail.suffix hsf) (by rw [List.length_append, hfl]; omega) (by simp only [List.length_append, List.length_cons, List.length_nil]; omega) (by omega)
    simp only at e2
    obtain ⟨a, i', ns', e3, h1, h2⟩ := e2
    rw [List.length_append, hfl] at h2
    exact ⟨a, i', ns', e3, h1, by simp only [List.length_cons]; omega⟩
  | @altR1 n l t r f r' hp hp2 ih ih2 =>
    intro m i w ns acc kk hm hat hn ha hk
    obtain ⟨kk, rfl⟩ : ∃ k', kk = k' + 1 := ⟨kk - 1, by omega⟩
    have hsh := short hp
    have hsf := hp.suf
    simp only [Short] at hsh
    have hl := hat.len
    have hsm := hat.small
    simp only [List.length_cons] at hl hn ha hk
    have e1 := ih m (i + 1) w ns hm hat.tail (by omega)
    simp only [Out] at e1
    simp only
    rw [syntax_parser_alternative_l0]
    dsimp only
    rw [show (124 : Int) = ((124 : Nat) : Int) from rfl, skip_yes K hat, Option.bind_some]
    simp only [cond_true]
    rw [e1, Option.bind_some, ck_pos (by simp only [List.length_cons, List.length_nil]; exact roomy8 (by omega))]
    have hfl := t.flat_len ns.length
    have e2 := ih2 m _ w (ns ++ t.flat ns.length) (acc ++ [((ns.length + t.sz : Nat) : Int) - 1]) kk hm (hat.tail.suffix hsf) (by rw [List.length_append, hfl]; omega) (by simp only [List.length_append, List.length_cons, List.length_nil]; omega) (by omega)
    simp only at e2
    simp only
    rw [e2, List.length_append, hfl]
    simp only [Pt.flat, Pt.roots, List.append_assoc, List.cons_append, List.nil_append]
  | @rowE n l k x hp ih =>
    intro m i w ns hm hat hn
    have hl := hat.len
    have hsm := hat.small
    exact ih m i w ns [] K hm hat hn (by simp; omega) (by omega)
  | @row1 n l f r hp ih =>
    intro m i w ns hm hat hn
    have hl := hat.len
    have hsm := hat.small
    have hsh := short hp
    simp only [Short] at hsh
    have e1 := ih m i w ns [] K hm hat hn (by simp; omega) (by omega)
    simp only at e1
    rw [Out, syntax_parser_row]
    simp only
    rw [e1]
    exact row_end K _ s _ w _ ns f (by rw [List.length_append, Pt.flat_len]; omega) (rows_shape hp (.inl rfl) rfl)
  | @rowR0 n l hst =>
    intro m i w ns acc k hm hat hn ha hk
    obtain ⟨k, rfl⟩ : ∃ k', k = k' + 1 := ⟨k - 1, by omega⟩
    simp only
    rw [stop_peek K hat, if_pos hst]
    simp only [Pt.flat, Pt.roots, List.append_nil]
    rw [at_end s i l hat]
  | @rowRE n l k x hst hp ih =>
    intro m i w ns acc kk hm hat hn ha hk
    obtain ⟨kk, rfl⟩ : ∃ k', kk = k' + 1 := ⟨kk - 1, by omega⟩
    have hk0 := hp.suf.2.1
    have hl := hat.len
    have hsm := hat.small
    obtain ⟨a, i', ns', e1, h1, h2⟩ := ih m i w ns hm hat hn
    simp only
    rw [stop_peek K hat, if_neg (by simp [hst]), e1, Option.bind_some, ck_pos (by simp only [List.length_cons, List.length_nil]; exact roomy8 (by omega))]
    obtain ⟨b, ns2, e2, h3⟩ := row_l0_bad K (syntax_parser_alternative_r K m) i' ((s.size - x.length : Nat) : Int) k (dp n) (by omega) ns' (acc ++ [a]) (by omega) kk (by omega) (s := s)
    exact ⟨b, i', ns2, e2, h1, by omega⟩
  | @rowRE2 n l t r k x hst hp hp2 ih ih2 =>
    intro m i w ns acc kk hm hat hn ha hk
    obtain ⟨kk, rfl⟩ : ∃ k', kk = k' + 1 := ⟨kk - 1, by omega⟩
    have hsh := short hp
    have hsf := hp.suf
    simp only [Short] at hsh
    have hl := hat.len
    have hsm := hat.small
    have e1 := ih m i w ns hm hat hn
    simp only [Out] at e1
    simp only
    rw [stop_peek K hat, if_neg (by simp [hst]), e1, Option.bind_some, ck_pos (by simp only [List.length_cons, List.length_nil]; exact roomy8 (by omega))]
    have hfl := t.flat_len ns.length
    have e2 := ih2 m _ w (ns ++ t.flat ns.length) (acc ++ [((ns.length + t.sz : Nat) : Int) - 1]) kk hm (hat.suffix hsf) (by rw [List.length_append, hfl]; omega) (by simp only [List.length_append, List.length_cons, List.length_nil]; omega) (by omega)
    simp only at e2
    obtain ⟨a, i', ns', e3, h1, h2⟩ := e2
    rw [List.length_append, hfl] at h2
    exact ⟨a, i', ns', e3, h1, by omega⟩
  | @rowR1 n l t r f r' hst hp hp2 ih ih2 =>
    intro m i w ns acc kk hm hat hn ha hk
    obtain ⟨kk, rfl⟩ : ∃ k', kk = k' + 1 := ⟨kk - 1, by omega⟩
    have hsh := short hp
    have hsf := hp.suf
    simp only [Short] at hsh
    have hl := hat.len
    have hsm := hat.small
    have e1 := ih m i w ns hm hat hn
    simp only [Out] at e1
    simp only
    rw [stop_peek K hat, if_neg (by simp [hst]), e1, Option.bind_some, ck_pos (by simp only [List.length_cons, List.length_nil]; exact roomy8 (by omega))]
    have hfl := t.flat_len ns.length
    have e2 := ih2 m _ w (ns ++ t.flat ns.length) (acc ++ [((ns.length + t.sz : Nat) : Int) - 1]) kk hm (hat.suffix hsf) (by rw [List.length_append, hfl]; omega) (by simp only [List.length_append, List.length_cons, List.length_nil]; omega) (by omega)
    simp only at e2
    simp only
    rw [e2, List.length_append, hfl]
    simp only [Pt.flat, Pt.roots, List.append_assoc, List.cons_append, List.nil_append]
  | @itemE n l k x hp ih =>
    intro m i w ns hm hat hn
    have hk0 := hp.suf.2.1
    obtain ⟨a, i', ns', e1, h1, h2⟩ := ih m i w ns hm hat hn
    rw [Out, syntax_parser_item, e1, Option.bind_some]
    simp only
    rw [item_l0_bad K _ a i' _ k (dp n) (by omega) ns' K (by omega)]
    exact ⟨a, i', ns', rfl, h1, h2⟩
  | @item1 n l t r res hp hp2 ih ih2 =>
    intro m i w ns hm hat hn
    have hsh := short hp
    have hsf := hp.suf
    simp only [Short] at hsh
    have hl := hat.len
    have hsm := hat.small
    have e1 := ih m i w ns hm hat hn
    simp only [Out] at e1
    rw [syntax_parser_item, e1, Option.bind_some]
    simp only
    have e2 := ih2 (syntax_parser_alternative_r K m) _ w (dp n) ns K (hat.suffix hsf) (by omega) (by omega)
    cases res with
    | ok t' r' => exact e2
    | err k x =>
      simp only at e2
      obtain ⟨a, i', ns', e3, h1, h2⟩ := e2
      rw [List.length_append, Pt.flat_len] at h2
      exact ⟨a, i', ns', e3, h1, by omega⟩
  | @itemR0 t l ht =>
    intro rc i w d ns0 k hat hn hk
    obtain ⟨k, rfl⟩ : ∃ k', k = k' + 1 := ⟨k - 1, by omega⟩
    have h1 := times_ok (w := w) (ns := ns0 ++ t.flat ns0.length) (d := d) K hat (by omega)
    rw [ht] at h1
    simp only [RdT] at h1
    simp only
    rw [syntax_parser_item_l0]
    dsimp only
    rw [h1, Option.bind_some]
    simp only [Bool.not_false, cond_true]
    rw [at_end s i l hat]
  | @itemRE t l k x ht =>
    intro rc i w d ns0 kk hat hn hk
    obtain ⟨kk, rfl⟩ : ∃ k', kk = k' + 1 := ⟨kk - 1, by omega⟩
    have h1 := times_ok (w := w) (ns := ns0 ++ t.flat ns0.length) (d := d) K hat (by omega)
    rw [ht] at h1
    simp only [RdT] at h1
    obtain ⟨⟨lo, hi, i', e1, h2, h3⟩, h4, h5⟩ := h1
    simp only
    rw [syntax_parser_item_l0]
    dsimp only
    rw [e1, Option.bind_some]
    simp only [Bool.not_true, cond_false]
    rw [put_ok K _ _ (by simp only [List.length_append, Pt.flat_len]; omega), Option.bind_some]
    simp only
    rw [item_l0_bad K _ _ i' _ k d (by omega) _ kk (by omega)]
    exact ⟨_, i', _, rfl, h3, by simp only [List.length_append, List.length_cons, List.length_nil]; omega⟩
  | @itemR1 t l lo hi r res ht hp ih =>
    intro rc i w d ns0 kk hat hn hk
    obtain ⟨kk, rfl⟩ : ∃ k', kk = k' + 1 := ⟨kk - 1, by omega⟩
    have hlt := pTimes_ok ht
    have hsf := pTimes_suf ht
    have h1 := times_ok (w := w) (ns := ns0 ++ t.flat ns0.length) (d := d) K hat (by omega)
    rw [ht] at h1
    simp only [RdT] at h1
    have hstep : syntax_parser_item_l0 K rc (kk + 1) (((ns0.length + t.sz : Nat) : Int) - 1) s i w 0 d (ns0 ++ t.flat ns0.length) = syntax_parser_item_l0 K rc kk (((ns0.length + (Pt.rep t lo hi).sz : Nat) : Int) - 1) s ((s.size - r.length : Nat) : Int) w 0 d (ns0 ++ (Pt.rep t lo hi).flat ns0.length) := by
      rw [syntax_parser_item_l0]
      dsimp only
      rw [h1.1, Option.bind_some]
      simp only [Bool.not_true, cond_false]
      rw [put_ok K _ _ (by simp only [List.length_append, Pt.flat_len]; omega), Option.bind_some]
      simp only [Pt.flat, Pt.sz, List.append_assoc, List.length_append, Pt.flat_len]
      congr 1
      omega
    have e2 := ih rc _ w d ns0 kk (hat.suffix hsf) (by simp only [Pt.sz]; omega) (by omega)
    rw [← hstep] at e2
    cases res with
    | ok t' r' => exact e2
    | err k x =>
      simp only at e2
      obtain ⟨a, i', ns', e3, h2, h3⟩ := e2
      refine ⟨a, i', ns', e3, h2, ?_⟩
      simp only [List.length_append, Pt.flat_len, Pt.sz] at h3 ⊢
      omega
  | @atomG0 l =>
    intro m i w ns hm hat hn
    rw [Out, syntax_parser_atom, peek_cons K hat, Option.bind_some]
    simp only [show (((40 : Nat) : Int) == 40) = true from rfl, cond_true]
    rw [syntax_parser_group]
    simp only [show decide (dp 0 ≥ 64) = true by decide, cond_true, fail_ok, Option.bind_some]
    have hl := hat.len
    simp only [List.length_cons] at hl
    exact ⟨0, i, ns, by simp only [List.length_cons]; rw [show s.size - (l.length + 1) = i by omega]; rfl, hat.1, by omega⟩
  | @atomGE n l k x hp ih =>
    intro m i w ns hm hat hn
    have hk0 := hp.suf.2.1
    simp only [List.length_cons] at hn
    obtain ⟨a, i', ns', e1, h1, h2⟩ := ih m (i + 1) w ns (by omega) hat.tail (by omega)
    rw [Out, syntax_parser_atom, peek_cons K hat, Option.bind_some]
    simp only [show (((40 : Nat) : Int) == 40) = true from rfl, cond_true]
    rw [syntax_parser_group]
    simp only [show decide (dp (n + 1) ≥ 64) = false from decide_eq_false (by simp only [dp]; omega), cond_false]
    rw [next_cons K hat, Option.bind_some]
    simp only
    rw [show IntKind.i64.wrap (dp (n + 1) + 1) = dp n by rw [w64 (by simp only [dp]; omega) (by simp only [dp]; omega)]; simp only [dp]; omega, e1, Option.bind_some]
    simp only
    rw [show IntKind.i64.wrap (dp n - 1) = dp (n + 1) by rw [w64 (by simp only [dp]; omega) (by simp only [dp]; omega)]; simp only [dp]; omega]
    rw [next_bad K (by omega), Option.bind_some]
    exact ⟨a, i', ns', rfl, h1, by simp only [List.length_cons]; omega⟩
  | @atomGE2 n l t hp ih =>
    intro m i w ns hm hat hn
    have hsh := short hp
    simp only [Short, List.length_nil] at hsh
    have hat2 := hat.tail.suffix hp.suf
    simp only [List.length_cons] at hn
    have e1 := ih m (i + 1) w ns (by omega) hat.tail (by omega)
    simp only [Out] at e1
    rw [Out, syntax_parser_atom, peek_cons K hat, Option.bind_some]
    simp only [show (((40 : Nat) : Int) == 40) = true from rfl, cond_true]
    rw [syntax_parser_group]
    simp only [show decide (dp (n + 1) ≥ 64) = false from decide_eq_false (by simp only [dp]; omega), cond_false]
    rw [next_cons K hat, Option.bind_some]
    simp only
    rw [show IntKind.i64.wrap (dp (n + 1) + 1) = dp n by rw [w64 (by simp only [dp]; omega) (by simp only [dp]; omega)]; simp only [dp]; omega, e1, Option.bind_some]
    simp only
    rw [show IntKind.i64.wrap (dp n - 1) = dp (n + 1) by rw [w64 (by simp only [dp]; omega) (by simp only [dp]; omega)]; simp only [dp]; omega]
    rw [next_nil K hat2, Option.bind_some]
    exact ⟨_, _, _, rfl, by simp, by simp only [List.length_append, Pt.flat_len, List.length_cons]; omega⟩
  | @atomG n l t c r hp ih =>
    intro m i w ns hm hat hn
    have hat2 := hat.tail.suffix hp.suf
    have hl3 := hat2.tail.len
    simp only [List.length_cons] at hn
    have e1 := ih m (i + 1) w ns (by omega) hat.tail (by omega)
    simp only [Out] at e1
    rw [Out, syntax_parser_atom, peek_cons K hat, Option.bind_some]
    simp only [show (((40 : Nat) : Int) == 40) = true from rfl, cond_true]
    rw [syntax_parser_group]
    simp only [show decide (dp (n + 1) ≥ 64) = false from decide_eq_false (by simp only [dp]; omega), cond_false]
    rw [next_cons K hat, Option.bind_some]
    simp only
    rw [show IntKind.i64.wrap (dp (n + 1) + 1) = dp n by rw [w64 (by simp only [dp]; omega) (by simp only [dp]; omega)]; simp only [dp]; omega, e1, Option.bind_some]
    simp only
    rw [show IntKind.i64.wrap (dp n - 1) = dp (n + 1) by rw [w64 (by simp only [dp]; omega) (by simp only [dp]; omega)]; simp only [dp]; omega]
    rw [next_cons K hat2, Option.bind_some]
    rw [show s.size - (c :: r).length + 1 = s.size - r.length by omega]
    rfl
  | @atomC n l k x hp ih =>
    intro m i w ns hm hat hn
    have hk0 := hp.suf.2.1
    have hl := hat.len
    have hsm := hat.small
    simp only [List.length_cons] at hn
    obtain ⟨i', hat', hi', e1⟩ := class_head (w := w) (ns := ns) (d := dp n) K hat (by omega)
    have hcl := suf_len (clsHead_suf l)
    have hl' := hat'.len
    obtain ⟨q, i2, e2, h1, h2⟩ := (spans_ok K (s := s) (by omega) hp rfl) i' w (dp n) ns (clsHead l).1 z4 K hat' (by omega)
    obtain ⟨S, e3⟩ := cls2_bad (s := s) (ns := ns) (d := dp n) K (by omega) (i := i2) (w := ((s.size - x.length : Nat) : Int)) (e := k) (by omega) (clsHead l).1 q z4
    rw [Out, syntax_parser_atom, peek_cons K hat, Option.bind_some]
    simp only [show (((91 : Nat) : Int) == 40) = false from rfl, show (((91 : Nat) : Int) == 91) = true from rfl, cond_true, cond_false]
    rw [e1, e2, e3, Option.bind_some]
    simp only
    rw [bytes_ok K _ _ (by simp only; omega), Option.bind_some]
    exact ⟨_, i2, _, rfl, h2, by simp only [List.length_append, List.length_cons, List.length_nil]; omega⟩
  | @atomC0 n l p c r hp hz ih =>
    intro m i w ns hm hat hn
    have hl := hat.len
    have hsm := hat.small
    have hsf := hp.suf
    simp only [List.length_cons] at hn
    obtain ⟨i', hat', hi', e1⟩ := class_head (w := w) (ns := ns) (d := dp n) K hat (by omega)
    have hcl := suf_len (clsHead_suf l)
    have hl' := hat'.len
    obtain ⟨q, hq, e2⟩ := spans_ok K (s := s) (by omega) hp rfl
    have e2 := e2 i' w (dp n) ns (clsHead l).1 z4 K hat' (by omega)
    have hpq : st p = st q := by simpa using hq
    have hz' : st (notS (clsHead l).1 q) = z4 := by
      rw [← hz]
      refine st_congr (fun b hb => ?_)
      have := st_inj hpq b hb
      simp only [notS, this]
    rw [Out, syntax_parser_atom, peek_cons K hat, Option.bind_some]
    simp only [show (((91 : Nat) : Int) == 40) = false from rfl, show (((91 : Nat) : Int) == 91) = true from rfl, cond_true, cond_false]
    rw [e1, e2, cls2_ok K (by omega) (hat'.suffix hsf), if_pos hz', Option.bind_some]
    simp only
    rw [bytes_ok K _ _ (by simp only; omega), Option.bind_some]
    exact ⟨_, s.size - (c :: r).length, _, rfl, by omega, by simp only [List.length_append, List.length_cons, List.length_nil]; omega⟩
  | @atomC1 n l p c r hp hz ih =>
    intro m i w ns hm hat hn
    have hl := hat.len
    have hsm := hat.small
    have hsf := hp.suf
    simp only [List.length_cons] at hn
    obtain ⟨i', hat', hi', e1⟩ := class_head (w := w) (ns := ns) (d := dp n) K hat (by omega)
    have hcl := suf_len (clsHead_suf l)
    have hl' := hat'.len
    obtain ⟨q, hq, e2⟩ := spans_ok K (s := s) (by omega) hp rfl
    have e2 := e2 i' w (dp n) ns (clsHead l).1 z4 K hat' (by omega)
    have hpq : st p = st q := by simpa using hq
    have hz' : st (notS (clsHead l).1 q) = st (notS (clsHead l).1 p) := by
      refine st_congr (fun b hb => ?_)
      have := st_inj hpq b hb
      simp only [notS, this]
    have hat2 := hat'.suffix hsf
    have hat3 := hat2.tail
    have := hat3.len
    rw [Out, syntax_parser_atom, peek_cons K hat, Option.bind_some]
    simp only [show (((91 : Nat) : Int) == 40) = false from rfl, show (((91 : Nat) : Int) == 91) = true from rfl, cond_true, cond_false]
    rw [e1, e2, cls2_ok K (by omega) hat2, hz', if_neg hz, Option.bind_some]
    simp only
    rw [bytes_ok K _ _ (by simp only; omega), Option.bind_some]
    simp only [Pt.sz, Pt.flat, show s.size - (c :: r).length + 1 = s.size - r.length by omega]
    congr 2
    omega
  | @atomL n l h40 h91 =>
    intro m i w ns hm hat hn
    exact leaf_ok K (by omega) _ hat hn h40 h91
  | spans0 => trivial
  | spansE => trivial
  | spans1 => trivial
end Go.Rv

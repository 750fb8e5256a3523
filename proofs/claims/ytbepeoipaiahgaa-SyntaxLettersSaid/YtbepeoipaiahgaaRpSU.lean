/- SyntaxLetters, plainly: a row of letters and digits is a Cat of them, with bars an Alt. -/
import Derived.Test.YtbepeoipaiahgaaRpST
namespace Go.Rv
def plainC (c : Nat) : Prop := specN c = false ∧ c < 256
theorem plain_ne {c : Nat} (h : plainC c) : c ≠ 124 ∧ c ≠ 42 ∧ c ≠ 43 ∧ c ≠ 63 ∧ c ≠ 123 ∧ c ≠ 40 ∧ c ≠ 41 ∧ c ≠ 91 ∧ c ≠ 46 ∧ c ≠ 92 ∧ c ≠ 47 ∧ c ≠ 36 := by
  obtain ⟨h, _⟩ := h
  refine ⟨?_, ?_, ?_, ?_, ?_, ?_, ?_, ?_, ?_, ?_, ?_, ?_⟩ <;> (rintro rfl; revert h; decide)
abbrev oneT (c : Nat) : Pt := .set (st fun x => x == c)
theorem plain_leaf {c : Nat} (h : plainC c) (r : List Nat) : pLeaf (c :: r) = .ok (oneT c) r := by
  have := plain_ne h
  simp only [pLeaf, pOne, this, if_false, false_and, or_self, ne_eq, not_false_eq_true, true_and, h.1, Bool.false_eq_true]
theorem times_none {l : List Nat} (h : ∀ c r, l = c :: r → c ≠ 42 ∧ c ≠ 43 ∧ c ≠ 63 ∧ c ≠ 123) : pTimes l = none := by
  cases l with
  | nil => rfl
  | cons c r =>
    obtain ⟨h1, h2, h3, h4⟩ := h c r rfl
    simp only [pTimes, h1, h2, h3, h4, if_false, false_and]
theorem item_plain {c : Nat} (h : plainC c) (n : Nat) {r : List Nat} (hr : pTimes r = none) : PR (.item n) (c :: r) (.ok (oneT c) r) := by
  have hne := plain_ne h
  have h1 : PR (.atom n) (c :: r) (.ok (oneT c) r) := plain_leaf h r ▸ PR.atomL (by simpa using hne.2.2.2.2.2.1) (by simpa using hne.2.2.2.2.2.2.2.1)
  exact .item1 h1 (.itemR0 hr)
theorem stop_plain {c : Nat} (h : plainC c) (r : List Nat) : stopN (c :: r) = false := by
  have := plain_ne h
  simp [stopN, this.1, this.2.2.2.2.2.2.1]
def lets : List Nat → Pt
  | [] => .nil
  | c :: r => .cons (oneT c) (lets r)
theorem lets_row (n : Nat) : ∀ (l : List Nat), (∀ c ∈ l, plainC c) → PR (.rowR n) l (.ok (lets l) []) := by
  intro l
  induction l with
  | nil => intro _; exact .rowR0 rfl
  | cons c r ih =>
    intro h
    have hc := h c (List.mem_cons_self ..)
    refine .rowR1 (stop_plain hc r) (item_plain hc n ?_) (ih fun x hx => h x (List.mem_cons_of_mem _ hx))
    refine times_none fun x y hxy => ?_
    have := plain_ne (h x (by rw [hxy]; simp))
    exact ⟨this.2.1, this.2.2.1, this.2.2.2.1, this.2.2.2.2.1⟩
theorem lets_alt (n : Nat) : ∀ (l : List Nat), (∀ c ∈ l, plainC c) → PR (.altR n) (l.flatMap fun c => [124, c]) (.ok (lets l) []) := by
  intro l
  induction l with
  | nil => intro _; exact .altR0 (by simp)
  | cons c r ih =>
    intro h
    have hc := h c (List.mem_cons_self ..)
    have hr : ∀ x y, (r.flatMap fun c => [124, c]) = x :: y → x = 124 := fun x y hxy => by
      cases r with
      | nil => simp at hxy
      | cons a r => simp at hxy; exact hxy.1.symm
    have hi := item_plain hc n (r := r.flatMap fun c => [124, c]) (times_none fun x y hxy => by rw [hr x y hxy]; decide)
    have hrow : PR (.row n) (c :: r.flatMap fun c => [124, c]) (.ok (oneT c) (r.flatMap fun c => [124, c])) := by
      refine .row1 (.rowR1 (stop_plain hc _) hi (.rowR0 ?_))
      cases hq : (r.flatMap fun c => [124, c]) with
      | nil => rfl
      | cons x y => rw [hr x y hq]; rfl
    exact .altR1 hrow (ih fun x hx => h x (List.mem_cons_of_mem _ hx))
def bars : List Nat → List Nat
  | [] => []
  | c :: r => c :: r.flatMap fun c => [124, c]
theorem bars_snoc (l : List Nat) (d : Nat) : bars (l ++ [d]) = bars l ++ (if l = [] then [d] else [124, d]) := by
  cases l with
  | nil => rfl
  | cons c r => simp [bars]
abbrev oneNd (c : Nat) : api_Node := ⟨2, st fun x => x == c, [], 0, 0, noB⟩
theorem lets_flat : ∀ (l : List Nat) (n : Nat), (lets l).flat n = l.map oneNd ∧ (lets l).roots n = (List.range' n l.length).map Int.ofNat ∧ (lets l).sz = l.length := by
  intro l
  induction l with
  | nil => intro n; exact ⟨rfl, rfl, rfl⟩
  | cons c r ih =>
    intro n
    obtain ⟨h1, h2, h3⟩ := ih (n + 1)
    refine ⟨?_, ?_, ?_⟩
    · simp only [lets, Pt.flat, Pt.sz, h1, List.map_cons, List.cons_append, List.nil_append]
    · simp only [lets, Pt.roots, Pt.sz, h2, List.length_cons, List.range'_succ, List.map_cons]
      congr 1
      simp
    · simp only [lets, Pt.sz, h3, List.length_cons]; omega
theorem one_node (K : Nat) (hK : 6000 ≤ K) (c : Nat) (hc : c < 256) : raddlelaw04_one K (c : Int) = some (oneNd c) := by
  have h := rOf_spec K [c] (by simpa using hc) (by simp) (by simp; omega)
  rw [raddlelaw04_one]
  rw [show nn [c] = [(c : Int)] from rfl] at h
  rw [h, Option.bind_some]
  have : st (fun b => [c].contains b) = st (fun b => b == c) := st_congr fun b _ => by rw [Bool.eq_iff_iff]; simp
  rw [this]
theorem bars_lt {l : List Nat} (h : ∀ c ∈ l, plainC c) : ∀ c ∈ bars l, c < 256 := by
  intro c hc
  cases l with
  | nil => simp [bars] at hc
  | cons a r =>
    simp only [bars, List.mem_cons, List.mem_flatMap] at hc
    rcases hc with rfl | ⟨b, hb, hc⟩
    · exact (h _ (by simp)).2
    · simp at hc
      rcases hc with rfl | rfl
      · decide
      · exact (h _ (List.mem_cons_of_mem _ hb)).2
theorem bars_len (l : List Nat) : (bars l).length ≤ 2 * l.length := by
  cases l with
  | nil => simp [bars]
  | cons c r =>
    have : ∀ r : List Nat, (r.flatMap fun c => [124, c]).length = 2 * r.length := by
      intro r
      induction r with
      | nil => rfl
      | cons a r ih => rw [List.flatMap_cons, List.length_append, ih]; simp; omega
    simp [bars, this]; omega
theorem lets2 {l : List Nat} (h : 2 ≤ l.length) : ∃ a b r, l = a :: b :: r := by
  match l, h with
  | a :: b :: r, _ => exact ⟨a, b, r, rfl⟩
theorem parse_cat (K : Nat) (hK : 6000 ≤ K) (l : List Nat) (h : ∀ c ∈ l, plainC c) (h2 : 2 ≤ l.length) (h3 : l.length ≤ 100) : syntax_Parse K (toB l) = some (l.map oneNd ++ [⟨3, z4, (List.range' 0 l.length).map Int.ofNat, 0, 0, noB⟩], 0, 0) := by
  have hb : bs (toB l) = l := bs_toB fun c hc => (h c hc).2
  obtain ⟨f1, f2, f3⟩ := lets_flat l 0
  have hj : joinR (lets l) = .cat (lets l) := by
    obtain ⟨a, b, r, rfl⟩ := lets2 h2
    rfl
  have hp : PR (.alt 64) (bs (toB l)) (.ok (.cat (lets l)) []) := by
    rw [hb]
    have h1 := PR.row1 (lets_row 64 l h)
    rw [hj] at h1
    exact .alt1 h1 (.altR0 (by simp))
  rw [Parse_ok K hK (by rw [toB_size]; omega) hp, out_ok _ (by simp only [Pt.sz, f3]; omega)]
  simp only [Pt.flat, f1, f2]
theorem parse_alt (K : Nat) (hK : 6000 ≤ K) (l : List Nat) (h : ∀ c ∈ l, plainC c) (h2 : 2 ≤ l.length) (h3 : l.length ≤ 100) : syntax_Parse K (toB (bars l)) = some (l.map oneNd ++ [⟨4, z4, (List.range' 0 l.length).map Int.ofNat, 0, 0, noB⟩], 0, 0) := by
  have hb : bs (toB (bars l)) = bars l := bs_toB (bars_lt h)
  obtain ⟨f1, f2, f3⟩ := lets_flat l 0
  have hlen := bars_len l
  have hp : PR (.alt 64) (bs (toB (bars l))) (.ok (.alt (lets l)) []) := by
    rw [hb]
    obtain ⟨a, b, r, rfl⟩ := lets2 h2
    have ha := h a (by simp)
    have hr : ((b :: r).flatMap fun c => [124, c]) = 124 :: b :: (r.flatMap fun c => [124, c]) := rfl
    have hi := item_plain ha 64 (r := (b :: r).flatMap fun c => [124, c]) (times_none fun x y hxy => by rw [hr] at hxy; cases hxy; decide)
    have hrow : PR (.row 64) (a :: (b :: r).flatMap fun c => [124, c]) (.ok (oneT a) ((b :: r).flatMap fun c => [124, c])) :=
      .row1 (.rowR1 (stop_plain ha _) hi (.rowR0 rfl))
    exact .alt1 hrow (lets_alt 64 (b :: r) fun x hx => h x (List.mem_cons_of_mem _ hx))
  rw [Parse_ok K hK (by rw [toB_size]; omega) hp, out_ok _ (by simp only [Pt.sz, f3]; omega)]
  simp only [Pt.flat, f1, f2]
theorem parse_few (K : Nat) (hK : 6000 ≤ K) (l : List Nat) (h : ∀ c ∈ l, plainC c) (h2 : l.length < 2) : ∃ a, syntax_Parse K (toB l) = some ([a], 0, 0) := by
  have hb : bs (toB l) = l := bs_toB fun c hc => (h c hc).2
  match l, h2 with
  | [], _ =>
    have hp : PR (.alt 64) (bs (toB [])) (.ok .empty []) := by
      rw [hb]
      exact .alt1 (t := .empty) (.row1 (.rowR0 rfl)) (.altR0 (by simp))
    exact ⟨_, by rw [Parse_ok K hK (by decide) hp, out_ok _ (by simp [Pt.sz])]; rfl⟩
  | [c], _ =>
    have hc := h c (by simp)
    have hp : PR (.alt 64) (bs (toB [c])) (.ok (oneT c) []) := by
      rw [hb]
      have hne := plain_ne hc
      exact PR.leaf1 64 (by simpa using hne.2.2.2.2.2.1) (by simpa using hne.2.2.2.2.2.2.2.1) (stop_plain hc []) (plain_leaf hc [])
    exact ⟨_, by rw [Parse_ok K hK (by rw [toB_size]; show 1 ≤ 1024; omega) hp, out_ok _ (by simp [Pt.sz])]; rfl⟩
def alph : ByteArray := ⟨#[97, 98, 99, 100, 101, 102, 103, 104, 105, 106, 107, 108, 109, 110, 111, 112, 113, 114, 115, 116, 117, 118, 119, 120, 121, 122, 65, 66, 67, 68, 69, 70, 71, 72, 73, 74, 75, 76, 77, 78, 79, 80, 81, 82, 83, 84, 85, 86, 87, 88, 89, 90, 48, 49, 50, 51, 52, 53, 54, 55, 56, 57]⟩
theorem alph_plain : ∀ i : _root_.Fin 62, ((bs alph)[i.val]?.getD 0) < 256 ∧ specN ((bs alph)[i.val]?.getD 0) = false := by decide +kernel
theorem roomy96 {n : Nat} (h : n ≤ 100000) : roomy 96 (n + 1) = true := by
  rw [roomy_iff]; simp only [maxLen]; omega
theorem letters_end (K : Nat) (hK : 6000 ≤ K) (k : Nat) (x : List Int) (ds : List Nat) (hd : ∀ c ∈ ds, plainC c) (hx : x.length = ds.length) (hl : ds.length ≤ 100) (y : List Int) (m : Int) :
    raddlelaw04_SyntaxLetters_l0 K (k + 1) true x (toB ds) (toB (bars ds)) y m m (ds.map oneNd) ((List.range' 0 ds.length).map Int.ofNat) = some true := by
  have hbl := bars_len ds
  rw [raddlelaw04_SyntaxLetters_l0]
  dsimp only
  rw [show decide (m < m) = false from decide_eq_false (by omega), cond_false]
  by_cases h2 : ds.length < 2
  · rw [show decide ((x.length : Int) < 2) = true from decide_eq_true (by omega), cond_true]
    obtain ⟨a, ha⟩ := parse_few K hK ds hd h2
    rw [ha]
    rfl
  · rw [show decide ((x.length : Int) < 2) = false from decide_eq_false (by omega), cond_false, parse_cat K hK ds hd (by omega) hl, Option.bind_some, parse_alt K hK ds hd (by omega) hl, Option.bind_some]
    simp only [cond_true, beq_self_eq_true, List.length_map, Int.toNat_natCast]
    have htk : (ds.map oneNd).take ds.length = ds.map oneNd := List.take_of_length_le (by simp)
    have hr : (List.range' 0 ds.length).length = ds.length := by simp
    rw [ck_pos ⟨by omega, Nat.le_refl _⟩, htk]
    simp only [List.length_cons, List.length_nil, List.length_map]
    have hsame : ∀ op : Int, raddleref04_Same K (ds.map oneNd ++ [⟨op, z4, (List.range' 0 ds.length).map Int.ofNat, 0, 0, noB⟩]) (ds.map oneNd ++ [⟨op, z4, (List.range' 0 ds.length).map Int.ofNat, 0, 0, noB⟩]) = some true := fun op => by
      rw [Same_ok K _ _ (by simp; omega) (fun n hn => by
        rcases List.mem_append.1 hn with hn | hn
        · obtain ⟨c, _, rfl⟩ := List.mem_map.1 hn
          exact ⟨by show 0 < K; omega, Nat.zero_le _⟩
        · simp at hn; subst hn
          simp; omega)]
      simp
    rw [ck_pos (roomy96 (by omega)), hsame 3, Option.bind_some, cond_true, ck_pos (roomy96 (by omega)), hsame 4, Option.bind_some]
theorem letters_loop (K : Nat) (hK : 6000 ≤ K) (x : List Int) (hx : ∀ c ∈ x, 0 ≤ c ∧ c < 256) (hl : x.length ≤ 100) : ∀ (m k i : Nat) (ds : List Nat), x.length - i = m → i ≤ x.length → m < k → (∀ c ∈ ds, plainC c) → ds.length = i →
    raddlelaw04_SyntaxLetters_l0 K k true x (toB ds) (toB (bars ds)) x (x.length : Int) (i : Int) (ds.map oneNd) ((List.range' 0 ds.length).map Int.ofNat) = some true := by
  intro m
  induction m with
  | zero =>
    intro k i ds hm hi hk hd hlen
    obtain ⟨k, rfl⟩ : ∃ k', k = k' + 1 := ⟨k - 1, by omega⟩
    have : i = x.length := by omega
    subst this
    exact letters_end K hK k x ds hd hlen.symm (by omega) x _
  | succ m ih =>
    intro k i ds hm hi hk hd hlen
    obtain ⟨k, rfl⟩ : ∃ k', k = k' + 1 := ⟨k - 1, by omega⟩
    have hlt : i < x.length := by omega
    obtain ⟨hc0, hc1⟩ := hx _ (List.getElem_mem hlt)
    rw [raddlelaw04_SyntaxLetters_l0]
    dsimp only
    rw [show decide ((i : Int) < (x.length : Int)) = true from decide_eq_true (by omega), cond_true, geti_nat hlt, Option.bind_some]
    obtain ⟨c, hc⟩ : ∃ c : Nat, x[i] = (c : Int) := ⟨x[i].toNat, by omega⟩
    have hmod : Int.tmod x[i] 62 = ((c % 62 : Nat) : Int) := by rw [hc]; exact (Int.ofNat_tmod c 62).symm
    have hm62 : c % 62 < 62 := Nat.mod_lt _ (by decide)
    have hal := alph_plain ⟨c % 62, hm62⟩
    simp only at hal
    have hbt : bt alph (Int.tmod x[i] 62) = (((bs alph)[c % 62]?.getD 0 : Nat) : Int) := by rw [hmod, bt_bs]
    rw [alph] at hbt
    rw [hbt]
    rw [← alph]
    generalize hdd : (bs alph)[c % 62]?.getD 0 = d at *
    have hd' : ∀ c ∈ ds ++ [d], plainC c := fun x hx => by
      rcases List.mem_append.1 hx with hx | hx
      · exact hd x hx
      · simp at hx; subst hx; exact ⟨hal.2, hal.1⟩
    have hsz1 : (ofBytes [(d : Int)]).size = 1 := by
      rw [show ([(d : Int)] : List Int) = nn [d] from rfl, ofBytes_nn, toB_size]; rfl
    have hob : ofBytes [(d : Int)] = toB [d] := by
      rw [show ([(d : Int)] : List Int) = nn [d] from rfl, ofBytes_nn]
    have hbl := bars_len ds
    rw [ck_pos ⟨by rw [hmod]; omega, by rw [hmod]; show (_ : Int) < 62; omega⟩, ck_pos (by rw [hsz1, toB_size]; omega), hob, ← toB_append]
    have hnext := ih k (i + 1) (ds ++ [d]) (by omega) (by omega) (by omega) hd' (by simp [hlen])
    have hj : ∀ (t : ByteArray), t ++ toB [d] = toB (bars (ds ++ [d])) → t.size ≤ 1000 → raddlelaw04_SyntaxLetters_j1 K (raddlelaw04_SyntaxLetters_l0 K k) true x (toB (ds ++ [d])) t (i : Int) (d : Int) x (x.length : Int) (i : Int) (ds.map oneNd) ((List.range' 0 ds.length).map Int.ofNat) = some true := by
      intro t ht hts
      rw [raddlelaw04_SyntaxLetters_j1, ck_pos (by rw [hsz1]; omega), one_node K hK d hal.1, Option.bind_some, ck_pos (by simp only [List.length_cons, List.length_nil, List.length_map]; exact roomy96 (by omega)), ck_pos (by simp only [List.length_cons, List.length_nil, List.length_map, List.length_range']; exact roomy8 (by omega)), hob, ht, w64s (n := i) (by omega)]
      rw [List.map_append, List.length_append, List.length_singleton, List.range'_concat, List.map_append] at hnext
      rw [show 0 + 1 * ds.length = i by omega] at hnext
      exact hnext
    by_cases h0 : i = 0
    · have hds : ds = [] := List.eq_nil_of_length_eq_zero (by omega)
      rw [show decide ((i : Int) > 0) = false from decide_eq_false (by omega), cond_false]
      refine hj _ ?_ ?_
      · rw [bars_snoc, if_pos hds, toB_append]
      · rw [toB_size]; omega
    · have hds : ds ≠ [] := fun h => by rw [h] at hlen; simp at hlen; omega
      rw [show decide ((i : Int) > 0) = true from decide_eq_true (by omega), cond_true, ck_pos (by rw [toB_size]; show _ + 1 ≤ _; omega)]
      refine hj _ ?_ ?_
      · rw [bars_snoc, if_neg hds, show [124, d] = [124] ++ [d] from rfl, ← List.append_assoc, toB_append, toB_append (bars ds)]
        rfl
      · rw [ByteArray.size_append, toB_size]; show _ + 1 ≤ _; omega
theorem Letters_plain (b : List Int) (hb : ∀ c ∈ b, 0 ≤ c ∧ c < 256) : ∃ K, raddlelaw04_SyntaxLetters K b = some true := by
  refine ⟨6000, ?_⟩
  have e := minIf 100 b.length
  rw [show ((100 : Nat) : Int) = (100 : Int) from rfl] at e
  rw [raddlelaw04_SyntaxLetters, shown_at (by decide), Option.bind_some, e, Int.toNat_natCast, ck_pos ⟨by omega, by omega, by omega⟩, List.drop_zero]
  exact letters_loop 6000 (by decide) (b.take (min 100 b.length)) (fun c hc => hb c (List.mem_of_mem_take hc)) (by rw [List.length_take]; omega) (b.take (min 100 b.length)).length 6000 0 [] (by omega) (by omega) (by rw [List.length_take]; omega) (fun c hc => by simp at hc) rfl
end Go.Rv

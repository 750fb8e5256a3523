/- SyntaxBounds, plainly: bounds in digits are those of the repetition, if they may be. -/
import Derived.Test.YtbepeoipaiahgaaRpSU
namespace Go.Rv
def dgF : Nat → Nat → List Nat
  | 0, n => [48 + n]
  | k + 1, n => if n < 10 then [48 + n] else dgF k (n / 10) ++ [48 + n % 10]
/-- A number's digits. -/
def dg (n : Nat) : List Nat := dgF 4 n
def dgP (n : Nat) : Prop := numV (dg n) = (min n 4097 : Nat) ∧ (dg n).all isDig = true ∧ (dg n).length ≤ 4 ∧ dg n ≠ []
instance (n : Nat) : Decidable (dgP n) := by unfold dgP; infer_instance
theorem dg_all2 : ∀ a : _root_.Fin 51, ∀ b : _root_.Fin 100, dgP (100 * a.val + b.val) := by decide +kernel
theorem dg_all (n : _root_.Fin 5001) : numV (dg n.val) = (min n.val 4097 : Nat) ∧ (dg n.val).all isDig = true ∧ (dg n.val).length ≤ 4 ∧ dg n.val ≠ [] := by
  have hn := n.isLt
  have := dg_all2 ⟨n.val / 100, by omega⟩ ⟨n.val % 100, Nat.mod_lt _ (by decide)⟩
  simp only [Nat.div_add_mod] at this
  exact this
theorem digits_all2 : ∀ a : _root_.Fin 51, ∀ b : _root_.Fin 100, raddlelaw04_digits 8 ((100 * a.val + b.val : Nat) : Int) = some (toB (dg (100 * a.val + b.val))) := by decide +kernel
theorem digits_all (n : _root_.Fin 5001) : raddlelaw04_digits 8 (n.val : Int) = some (toB (dg n.val)) := by
  have hn := n.isLt
  have := digits_all2 ⟨n.val / 100, by omega⟩ ⟨n.val % 100, Nat.mod_lt _ (by decide)⟩
  simp only [Nat.div_add_mod] at this
  exact this
theorem digits_ok (K : Nat) (hK : 6000 ≤ K) (n : Nat) (hn : n < 5001) : raddlelaw04_digits K (n : Int) = some (toB (dg n)) :=
  raddlelaw04_digits_le (by omega) _ _ (digits_all ⟨n, hn⟩)
theorem dig_span : ∀ (l r : List Nat), l.all isDig = true → digNext r = false → (l ++ r).takeWhile isDig = l ∧ (l ++ r).dropWhile isDig = r := by
  intro l
  induction l with
  | nil =>
    intro r _ hr
    cases r with
    | nil => exact ⟨rfl, rfl⟩
    | cons c r =>
      simp only [digNext] at hr
      simp only [List.nil_append, List.takeWhile_cons, List.dropWhile_cons, hr, Bool.false_eq_true, if_false, and_self]
  | cons c l ih =>
    intro r hl hr
    simp only [List.all_cons, Bool.and_eq_true] at hl
    obtain ⟨h1, h2⟩ := ih r hl.2 hr
    simp only [List.cons_append, List.takeWhile_cons, List.dropWhile_cons, hl.1, if_true, h1, h2, and_self]
/-- A repetition of x by bounds. -/
theorem parse_rep (K : Nat) (hK : 6000 ≤ K) (r : List Nat) (hr : ∀ c ∈ r, c < 256) (hl : r.length ≤ 100) (hd : digNext r = true) :
    (∀ lo hi, pBounds (123 :: r) r = .ok (lo, hi) [] → syntax_Parse K (toB (120 :: 123 :: r)) = some ([oneNd 120, ⟨5, z4, [0], lo, hi, noB⟩], 0, 0)) ∧
    (pBounds (123 :: r) r = .err 45 (123 :: r) → syntax_Parse K (toB (120 :: 123 :: r)) = some ([], 1, 45)) := by
  have hb : bs (toB (120 :: 123 :: r)) = 120 :: 123 :: r := bs_toB fun c hc => by
    rcases List.mem_cons.1 hc with rfl | hc
    · decide
    · rcases List.mem_cons.1 hc with rfl | hc
      · decide
      · exact hr c hc
  have hx : plainC 120 := ⟨by decide, by decide⟩
  have hat : PR (.atom 64) (120 :: 123 :: r) (.ok (oneT 120) (123 :: r)) := plain_leaf hx (123 :: r) ▸ PR.atomL (by simp) (by simp)
  have ht : pTimes (123 :: r) = some (pBounds (123 :: r) r) := by simp [pTimes, hd]
  refine ⟨fun lo hi h => ?_, fun h => ?_⟩
  · have hp : PR (.alt 64) (bs (toB (120 :: 123 :: r))) (.ok (.rep (oneT 120) lo hi) []) := by
      rw [hb]
      have h2 : PR (.item 64) (120 :: 123 :: r) (.ok (.rep (oneT 120) lo hi) []) := .item1 hat (.itemR1 (by rw [ht, h]) (.itemR0 rfl))
      have h3 : PR (.row 64) (120 :: 123 :: r) (.ok (.rep (oneT 120) lo hi) []) := .row1 (.rowR1 (stop_plain hx _) h2 (.rowR0 rfl))
      exact .alt1 h3 (.altR0 (by simp))
    rw [Parse_ok K hK (by rw [toB_size]; simp; omega) hp, out_ok _ (by simp [Pt.sz])]
    rfl
  · have hp : PR (.alt 64) (bs (toB (120 :: 123 :: r))) (.err 45 (123 :: r)) := by
      rw [hb]
      exact .altE (.rowE (.rowRE (stop_plain hx _) (.item1 hat (.itemRE (by rw [ht, h])))))
    rw [Parse_ok K hK (by rw [toB_size]; simp; omega) hp, out_err, toB_size]
    simp only [List.length_cons]
    rw [show r.length + 1 + 1 - (r.length + 1) = 1 by omega]
    rfl
theorem dg_bytes {n : Nat} (hn : n < 5001) : ∀ c ∈ dg n, c < 256 := fun c hc => by
  have := List.all_eq_true.1 (dg_all ⟨n, hn⟩).2.1 c hc
  simp [isDig] at this; omega
theorem dg_next {n : Nat} (hn : n < 5001) (r : List Nat) : digNext (dg n ++ r) = true := by
  obtain ⟨_, h1, _, h2⟩ := dg_all ⟨n, hn⟩
  simp only at h1 h2
  cases hq : dg n with
  | nil => exact absurd hq h2
  | cons c l =>
    rw [hq] at h1
    simp only [List.all_cons, Bool.and_eq_true] at h1
    exact h1.1
theorem fin_any (w : List Nat) (lo hi : Int) : pFin w lo hi false [125] = if 4096 < lo ∨ 4096 < hi ∨ hi = 0 ∨ (0 < hi ∧ hi < lo) then .err 45 w else .ok (lo, hi) [] := by
  simp [pFin]
theorem dg_val {n : Nat} (hn : n < 5001) : numV (dg n) = ((min n 4097 : Nat) : Int) := (dg_all ⟨n, hn⟩).1
theorem bounds_one {a : Nat} (ha : a < 5001) (w : List Nat) : pBounds w (dg a ++ [125]) = pFin w ((min a 4097 : Nat) : Int) ((min a 4097 : Nat) : Int) false [125] := by
  obtain ⟨h1, h2⟩ := dig_span (dg a) [125] (dg_all ⟨a, ha⟩).2.1 rfl
  unfold pBounds
  rw [h1, h2, dg_val ha]
  rw [show decide (((min a 4097 : Nat) : Int) < 0) = false from decide_eq_false (by omega)]
  rfl
theorem bounds_end {a : Nat} (ha : a < 5001) (w : List Nat) : pBounds w (dg a ++ [44, 125]) = pFin w ((min a 4097 : Nat) : Int) (-1) false [125] := by
  obtain ⟨h1, h2⟩ := dig_span (dg a) [44, 125] (dg_all ⟨a, ha⟩).2.1 rfl
  unfold pBounds
  rw [h1, h2, dg_val ha]
  rw [show decide (((min a 4097 : Nat) : Int) < 0) = false from decide_eq_false (by omega)]
  rfl
theorem bounds_two {a b : Nat} (ha : a < 5001) (hb : b < 5001) (w : List Nat) : pBounds w (dg a ++ 44 :: (dg b ++ [125])) = pFin w ((min a 4097 : Nat) : Int) ((min b 4097 : Nat) : Int) false [125] := by
  obtain ⟨h1, h2⟩ := dig_span (dg a) (44 :: (dg b ++ [125])) (dg_all ⟨a, ha⟩).2.1 rfl
  obtain ⟨h3, h4⟩ := dig_span (dg b) [125] (dg_all ⟨b, hb⟩).2.1 rfl
  unfold pBounds
  rw [h1, h2]
  simp only
  rw [dg_next hb [125], if_pos rfl, h3, h4, dg_val ha, dg_val hb]
  rw [show decide (((min a 4097 : Nat) : Int) < 0) = false from decide_eq_false (by omega), show decide (((min b 4097 : Nat) : Int) < 0) = false from decide_eq_false (by omega)]
  rfl
theorem bounds_j0 (K : Nat) (hK : 6000 ≤ K) (a hi : Nat) (ha : a < 5001) (hh : hi < 5001) (r : List Nat) (hr : ∀ c ∈ r, c < 256) (hl : r.length ≤ 90) (hd : digNext (r ++ [125]) = true)
    (hpb : pBounds (123 :: (r ++ [125])) (r ++ [125]) = pFin (123 :: (r ++ [125])) ((min a 4097 : Nat) : Int) ((min hi 4097 : Nat) : Int) false [125]) (s : ByteArray) (hs : s = toB (120 :: 123 :: r)) :
    raddlelaw04_SyntaxBounds_j0 K true (a : Int) s (hi : Int) = some true := by
  subst hs
  have hsz : (toB (120 :: 123 :: r)).size = r.length + 2 := by rw [toB_size]; rfl
  have happ : toB (120 :: 123 :: r) ++ (⟨#[125]⟩ : ByteArray) = toB (120 :: 123 :: (r ++ [125])) := by
    rw [show 120 :: 123 :: (r ++ [125]) = (120 :: 123 :: r) ++ [125] from rfl, toB_append]
    rfl
  have hr2 : ∀ c ∈ r ++ [125], c < 256 := fun c hc => by
    rcases List.mem_append.1 hc with hc | hc
    · exact hr c hc
    · simp at hc; subst hc; decide
  obtain ⟨h1, h2⟩ := parse_rep K hK (r ++ [125]) hr2 (by simp; omega) hd
  rw [raddlelaw04_SyntaxBounds_j0, ck_pos (by rw [hsz]; show _ + 1 ≤ _; omega), happ]
  rw [fin_any] at hpb
  have hbad : (4096 < a ∨ 4096 < hi ∨ hi < 1 ∨ hi < a) → ∃ l at_ e, syntax_Parse K (toB (120 :: 123 :: (r ++ [125]))) = some (l, at_, e) ∧ raddlelaw04_SyntaxBounds_j1 K true l at_ e = some true := fun hc => by
    rw [if_pos (by omega)] at hpb
    refine ⟨_, _, _, h2 hpb, ?_⟩
    rw [raddlelaw04_SyntaxBounds_j1]
    simp [raddlelaw04_SyntaxBounds_j2]
  by_cases c1 : 4096 < a
  · obtain ⟨l, at_, e, e1, e2⟩ := hbad (.inl c1)
    rw [e1, Option.bind_some, show decide ((a : Int) > 4096) = true from decide_eq_true (by omega), cond_true]
    exact e2
  by_cases c2 : 4096 < hi
  · obtain ⟨l, at_, e, e1, e2⟩ := hbad (.inr (.inl c2))
    rw [e1, Option.bind_some, show decide ((a : Int) > 4096) = false from decide_eq_false (by omega), cond_false, show decide ((hi : Int) > 4096) = true from decide_eq_true (by omega), cond_true]
    exact e2
  by_cases c3 : hi < 1 ∨ hi < a
  · obtain ⟨l, at_, e, e1, e2⟩ := hbad (.inr (.inr c3))
    rw [e1, Option.bind_some, show decide ((a : Int) > 4096) = false from decide_eq_false (by omega), cond_false, show decide ((hi : Int) > 4096) = false from decide_eq_false (by omega), cond_false, show decide ((hi : Int) < (if (1 : Int) > (a : Int) then (1 : Int) else (a : Int))) = true from decide_eq_true (by split <;> omega), cond_true]
    exact e2
  rw [if_neg (by omega)] at hpb
  have hma : min a 4097 = a := by omega
  have hmh : min hi 4097 = hi := by omega
  rw [hma, hmh] at hpb
  rw [h1 _ _ hpb, Option.bind_some, show decide ((a : Int) > 4096) = false from decide_eq_false (by omega), cond_false, show decide ((hi : Int) > 4096) = false from decide_eq_false (by omega), cond_false, show decide ((hi : Int) < (if (1 : Int) > (a : Int) then (1 : Int) else (a : Int))) = false from decide_eq_false (by split <;> omega), cond_false, digits_ok K hK a ha, Option.bind_some]
  have hdl := (dg_all ⟨a, ha⟩).2.2.1
  simp only at hdl
  have hs1 : (⟨#[120, 123]⟩ : ByteArray) ++ toB (dg a) = toB (120 :: 123 :: dg a) := by
    rw [show 120 :: 123 :: dg a = [120, 123] ++ dg a from rfl, toB_append]; rfl
  have hs2 : toB (120 :: 123 :: dg a) ++ (⟨#[44, 125]⟩ : ByteArray) = toB (120 :: 123 :: (dg a ++ [44, 125])) := by
    rw [show 120 :: 123 :: (dg a ++ [44, 125]) = (120 :: 123 :: dg a) ++ [44, 125] from rfl, toB_append]; rfl
  have hr3 : ∀ c ∈ dg a ++ [44, 125], c < 256 := fun c hc => by
    rcases List.mem_append.1 hc with hc | hc
    · exact dg_bytes ha c hc
    · simp at hc; rcases hc with rfl | rfl <;> decide
  obtain ⟨h3, _⟩ := parse_rep K hK (dg a ++ [44, 125]) hr3 (by simp; omega) (dg_next ha _)
  have hpe := bounds_end ha (123 :: (dg a ++ [44, 125]))
  rw [fin_any, hma, if_neg (by omega)] at hpe
  rw [ck_pos (by rw [toB_size]; show 2 + _ ≤ _; omega), hs1, ck_pos (by rw [toB_size]; simp only [List.length_cons]; show _ + 2 ≤ _; omega), hs2, h3 _ _ hpe, Option.bind_some]
  simp [geti]
theorem Bounds_plain (m n : Int) (two : Bool) (hm : 0 ≤ m ∧ m < 65536) (hn : 0 ≤ n ∧ n < 65536) : ∃ K, raddlelaw04_SyntaxBounds K m n two = some true := by
  refine ⟨6000, ?_⟩
  obtain ⟨a, ha⟩ : ∃ a : Nat, m = a := ⟨m.toNat, by omega⟩
  obtain ⟨b, hb⟩ : ∃ b : Nat, n = b := ⟨n.toNat, by omega⟩
  subst ha hb
  have hma : IntKind.i64.wrap (Int.tmod (a : Int) 5001) = ((a % 5001 : Nat) : Int) := by
    rw [show Int.tmod (a : Int) 5001 = ((a % 5001 : Nat) : Int) from (Int.ofNat_tmod a 5001).symm, w64 (by omega) (by omega)]
  have hmb : IntKind.i64.wrap (Int.tmod (b : Int) 5001) = ((b % 5001 : Nat) : Int) := by
    rw [show Int.tmod (b : Int) 5001 = ((b % 5001 : Nat) : Int) from (Int.ofNat_tmod b 5001).symm, w64 (by omega) (by omega)]
  rw [raddlelaw04_SyntaxBounds, shown_at (by decide), Option.bind_some, hma, hmb]
  have h1 : a % 5001 < 5001 := Nat.mod_lt _ (by decide)
  have h2 : b % 5001 < 5001 := Nat.mod_lt _ (by decide)
  generalize a % 5001 = x at *
  generalize b % 5001 = y at *
  have hdx := (dg_all ⟨x, h1⟩).2.2.1
  have hdy := (dg_all ⟨y, h2⟩).2.2.1
  simp only at hdx hdy
  have hs1 : (⟨#[120, 123]⟩ : ByteArray) ++ toB (dg x) = toB (120 :: 123 :: dg x) := by
    rw [show 120 :: 123 :: dg x = [120, 123] ++ dg x from rfl, toB_append]; rfl
  rw [digits_ok 6000 (by decide) x h1, Option.bind_some, ck_pos (by rw [toB_size]; show 2 + _ ≤ _; omega), hs1]
  cases two with
  | false =>
    rw [cond_false]
    exact bounds_j0 6000 (by decide) x x h1 h1 (dg x) (dg_bytes h1) (by omega) (dg_next h1 _) (bounds_one h1 _) _ rfl
  | true =>
    have hs2 : toB (120 :: 123 :: dg x) ++ (⟨#[44]⟩ : ByteArray) ++ toB (dg y) = toB (120 :: 123 :: (dg x ++ 44 :: dg y)) := by
      rw [show 120 :: 123 :: (dg x ++ 44 :: dg y) = ((120 :: 123 :: dg x) ++ [44]) ++ dg y by simp, toB_append, toB_append]; rfl
    rw [cond_true, ck_pos (by rw [toB_size]; simp only [List.length_cons]; show _ + 1 ≤ _; omega), digits_ok 6000 (by decide) y h2, Option.bind_some, ck_pos (by rw [ByteArray.size_append, toB_size, toB_size]; simp only [List.length_cons]; show _ + 1 + _ ≤ _; omega), hs2]
    refine bounds_j0 6000 (by decide) x y h1 h2 (dg x ++ 44 :: dg y) (fun c hc => ?_) (by simp; omega) ?_ ?_ _ rfl
    · rcases List.mem_append.1 hc with hc | hc
      · exact dg_bytes h1 c hc
      · rcases List.mem_cons.1 hc with rfl | hc
        · decide
        · exact dg_bytes h2 c hc
    · rw [List.append_assoc]; exact dg_next h1 _
    · have := bounds_two h1 h2 (123 :: ((dg x ++ 44 :: dg y) ++ [125]))
      rw [show dg x ++ 44 :: (dg y ++ [125]) = (dg x ++ 44 :: dg y) ++ [125] by simp] at this
      exact this
end Go.Rv

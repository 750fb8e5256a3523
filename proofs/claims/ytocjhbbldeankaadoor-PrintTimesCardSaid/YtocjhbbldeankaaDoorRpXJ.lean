/- Print, plainly: a byte, and a set, as they stand in a pattern, are read as what they are; the law PrintSets. -/
/- Print, plainly: how often, as it stands in a pattern. -/
/- Print, plainly: a tree as it stands in a pattern, by the program. -/
/- Print, plainly: a tree's nodes, printed one after another by the program; Tree. -/
/- Print, plainly: how often, as it stands in a pattern, is read as that; the law PrintTimes. -/
import Derived.Test.YtocjhbbldeankaaDoorRpXC
import Derived.Test.YtocjhbbldeankaaDoorRpSS
namespace Go.Rv
theorem hex_all : ∀ d : _root_.Fin 16, hexN (hxN d.val) = some d.val := by decide
theorem spec_all : ∀ c : _root_.Fin 256, (specN c.val || c.val == 45) = true → c.val ≠ 110 ∧ c.val ≠ 116 ∧ c.val ≠ 114 ∧ c.val ≠ 120 ∧ (c.val = 45 ∨ specN c.val = true) := by decide +kernel
theorem pOne_pb {c : Nat} (h : c < 256) (r : List Nat) : pOne (pbL c ++ r) = .ok c r := by
  unfold pbL
  split
  · next hs =>
    obtain ⟨h1, h2, h3, h4, h5⟩ := spec_all ⟨c, h⟩ hs
    simp only at h1 h2 h3 h4 h5
    show pOne (92 :: c :: r) = _
    rw [pOne, if_pos rfl, pEsc, if_neg h1, if_neg h2, if_neg h3, if_neg h4, if_pos h5]
  · next hs =>
    split
    · next h => subst h; rfl
    · split
      · next h => subst h; rfl
      · split
        · next h => subst h; rfl
        · split
          · show pOne (92 :: 120 :: hxN (c / 16) :: hxN (c % 16) :: r) = _
            have e1 := hex_all ⟨c / 16, by omega⟩
            have e2 := hex_all ⟨c % 16, by omega⟩
            simp only at e1 e2
            rw [pOne, if_pos rfl, pEsc, if_neg (by decide), if_neg (by decide), if_neg (by decide), if_pos rfl, pPair]
            simp only [e1, e2]
            rw [show 16 * (c / 16) + c % 16 = c by omega]
          · show pOne (c :: r) = _
            rw [pOne, if_neg (by rintro rfl; exact hs (by decide))]
theorem pb_head (c : Nat) : ∃ x t, pbL c = x :: t ∧ (x = 92 ∨ x = c ∧ specN c = false ∧ c ≠ 45) := by
  unfold pbL
  split
  · exact ⟨_, _, rfl, .inl rfl⟩
  · next hs =>
    split
    · exact ⟨_, _, rfl, .inl rfl⟩
    · split
      · exact ⟨_, _, rfl, .inl rfl⟩
      · split
        · exact ⟨_, _, rfl, .inl rfl⟩
        · split
          · exact ⟨_, _, rfl, .inl rfl⟩
          · simp only [Bool.or_eq_true, beq_iff_eq, not_or, Bool.not_eq_true] at hs
            exact ⟨_, _, rfl, .inr ⟨rfl, hs.1, hs.2⟩⟩
theorem pb_free {c x : Nat} {t : List Nat} (h : pbL c = x :: t) : x ≠ 46 ∧ x ≠ 123 ∧ x ≠ 47 ∧ x ≠ 36 ∧ x ≠ 40 ∧ x ≠ 91 ∧ x ≠ 93 ∧ x ≠ 45 ∧ x ≠ 94 ∧ x ≠ 124 ∧ x ≠ 41 ∧ x ≠ 42 ∧ x ≠ 43 ∧ x ≠ 63 ∧ (x = 92 ∨ specN x = false) ∧ markN x = false := by
  obtain ⟨y, u, h1, h2⟩ := pb_head c
  rw [h] at h1
  obtain ⟨rfl, rfl⟩ := List.cons.inj h1
  rcases h2 with rfl | ⟨rfl, hs, h45⟩
  · decide
  · have ne : ∀ y : Nat, specN y = true → x ≠ y := fun y hy he => by rw [he, hy] at hs; cases hs
    refine ⟨ne _ rfl, ne _ rfl, ne _ rfl, ne _ rfl, ne _ rfl, ne _ rfl, ne _ rfl, h45, ne _ rfl, ne _ rfl, ne _ rfl, ne _ rfl, ne _ rfl, ne _ rfl, .inr hs, ?_⟩
    have h93 := ne 93 rfl
    have h94 := ne 94 rfl
    simp [markN, h93, h94, h45]
theorem pLeaf_pb {c : Nat} (h : c < 256) (r : List Nat) : pLeaf (pbL c ++ r) = .ok (.set (st fun x => x == c)) r := by
  have h1 := pOne_pb h r
  obtain ⟨x, t, hx, _⟩ := pb_head c
  obtain ⟨n1, n2, n3, n4, _, _, _, _, _, _, _, _, _, _, n5, _⟩ := pb_free hx
  rw [hx, List.cons_append] at h1 ⊢
  rw [pLeaf, if_neg n1, if_neg (fun hh => n2 hh.1), if_neg (by rintro (h | h); exact n3 h; exact n4 h), if_neg (by
    rintro ⟨a, b⟩
    rcases n5 with h | h
    · exact a h
    · rw [h] at b; cases b), h1]
theorem atom_pb {c : Nat} (h : c < 256) (n : Nat) (r : List Nat) : PR (.atom n) (pbL c ++ r) (.ok (.set (st fun x => x == c)) r) := by
  obtain ⟨x, t, hx, _⟩ := pb_head c
  obtain ⟨_, _, _, _, n1, n2, _⟩ := pb_free hx
  have := PR.atomL (n := n) (l := pbL c ++ r) (by rw [hx]; simpa using n1) (by rw [hx]; simpa using n2)
  rwa [pLeaf_pb h r] at this
theorem alone {l : List Nat} {t : Pt} (n : Nat) (hs : stopN l = false) (h : PR (.atom n) l (.ok t [])) : PR (.alt n) l (.ok t []) := by
  have h1 : PR (.item n) l (.ok t []) := .item1 h (.itemR0 rfl)
  have h2 : PR (.rowR n) l (.ok (.cons t .nil) []) := .rowR1 hs h1 (.rowR0 rfl)
  exact .alt1 (.row1 h2) (.altR0 (by simp))
theorem shown_7000 : l5_shown 7000 = some true := by decide +kernel
end Go.Rv
namespace Go.Rv
def dgF : Nat → Nat → List Nat
  | 0, n => [48 + n]
  | k + 1, n => if n < 10 then [48 + n] else dgF k (n / 10) ++ [48 + n % 10]
def dg (n : Nat) : List Nat := dgF 4 n
theorem dec_dg : ∀ k n, n < 10 ^ (k + 1) → Lib.decDigits n = (dgF k n).map UInt8.ofNat := by
  intro k
  induction k with
  | zero =>
    intro n h
    rw [Lib.decDigits, dif_pos (by simpa using h)]
    rfl
  | succ k ih =>
    intro n h
    rw [Lib.decDigits]
    by_cases hn : n < 10
    · rw [dif_pos hn, dgF, if_pos hn]; rfl
    · rw [dif_neg hn, dgF, if_neg hn, ih (n / 10) (by rw [Nat.pow_succ] at h; omega), List.map_append]; rfl
theorem itoa_dg {n : Nat} (h : n < 100000) : itoaS (n : Int) = toB (dg n) := by
  rw [itoaS, Lib.itoa, if_neg (by omega), Int.toNat_natCast, dec_dg 4 n (by simpa using h)]
  rfl
def timesL (lo hi : Int) : List Nat :=
  if lo = 0 ∧ hi = -1 then [42] else if lo = 1 ∧ hi = -1 then [43] else if lo = 0 ∧ hi = 1 then [63]
  else if lo = hi then 123 :: (dg lo.toNat ++ [125]) else if hi = -1 then 123 :: (dg lo.toNat ++ [44, 125])
  else 123 :: (dg lo.toNat ++ 44 :: (dg hi.toNat ++ [125]))
theorem dg_len (n : Nat) : (dg n).length ≤ 5 := by
  have hl : ∀ k n, (dgF k n).length ≤ k + 1 := by
    intro k
    induction k with
    | zero => intro n; exact Nat.le_refl _
    | succ k ih => intro n; rw [dgF]; split; (simp); have := ih (n / 10); simp; omega
  exact hl 4 n
theorem ptimes_ok (K : Nat) {lo hi : Int} (h0 : 0 ≤ lo) (h1 : lo ≤ 4096) (h2 : hi = -1 ∨ (1 ≤ hi ∧ lo ≤ hi ∧ hi ≤ 4096)) : print_times K lo hi = some (toB (timesL lo hi)) := by
  have same2 : ∀ a b c d : Int, Arr2.same ⟨a, b⟩ ⟨c, d⟩ = decide (a = c ∧ b = d) := fun a b c d => by
    rw [Bool.eq_iff_iff]; simp [Arr2.same]
  have hl := dg_len lo.toNat
  have hh := dg_len hi.toNat
  have hi1 : strconv_Itoa K lo = some (toB (dg lo.toNat)) := by
    rw [strconv_Itoa, if_pos (by omega), ← itoa_dg (by omega), Int.toNat_of_nonneg h0]
  rw [print_times, timesL]
  simp only [same2]
  by_cases c1 : lo = 0 ∧ hi = -1
  · rw [decide_eq_true c1, cT, if_pos c1]; rfl
  rw [decide_eq_false c1, cF, if_neg c1]
  by_cases c2 : lo = 1 ∧ hi = -1
  · rw [decide_eq_true c2, cT, if_pos c2]; rfl
  rw [decide_eq_false c2, cF, if_neg c2]
  by_cases c3 : lo = 0 ∧ hi = 1
  · rw [decide_eq_true c3, cT, if_pos c3]; rfl
  rw [decide_eq_false c3, cF, if_neg c3]
  have s1 : (⟨#[123]⟩ : ByteArray) = toB [123] := rfl
  have s2 : (⟨#[125]⟩ : ByteArray) = toB [125] := rfl
  have s3 : (⟨#[44, 125]⟩ : ByteArray) = toB [44, 125] := rfl
  have s4 : (⟨#[44]⟩ : ByteArray) = toB [44] := rfl
  rw [s1, s2, s3, s4]
  simp only [hi1, bS, ← toB_append, toB_size]
  by_cases c4 : lo = hi
  · rw [decide_eq_true ⟨trivial, c4.symm⟩, cT, if_pos c4, ck_pos (by simp only [List.length_singleton]; omega), ck_pos (by simp only [List.length_append, List.length_singleton]; omega)]
    rfl
  rw [decide_eq_false (fun h => c4 h.2.symm), cF, if_neg c4]
  by_cases c5 : hi = -1
  · rw [decide_eq_true ⟨trivial, c5⟩, cT, if_pos c5, ck_pos (by simp only [List.length_singleton]; omega), ck_pos (by simp only [List.length_append, List.length_singleton, List.length_cons, List.length_nil]; omega)]
    rfl
  have hi2 : strconv_Itoa K hi = some (toB (dg hi.toNat)) := by
    rw [strconv_Itoa, if_pos (by omega), ← itoa_dg (by omega), Int.toNat_of_nonneg (by omega)]
  rw [decide_eq_false (fun h => c5 h.2), cF, if_neg c5, ck_pos (by simp only [List.length_singleton]; omega), ck_pos (by simp only [List.length_append, List.length_singleton]; omega), hi2, bS]
  simp only [← toB_append, toB_size]
  rw [ck_pos (by simp only [List.length_append, List.length_singleton]; omega), ck_pos (by simp only [List.length_append, List.length_singleton]; omega)]
  simp only [List.append_assoc, List.cons_append, List.nil_append]
end Go.Rv
namespace Go.Rv
def opN : Pt → Nat
  | .empty => 1
  | .set _ => 2
  | .cat _ => 3
  | .alt _ => 4
  | .rep _ _ _ => 5
  | .ref _ => 6
  | .nil => 0
  | .cons _ _ => 0
def wrN (par kid : Nat) : Bool := if kid = 4 then true else if kid = 1 ∨ kid = 3 then par != 4 else false
def kidL (par kid : Nat) (s : List Nat) : List Nat := if wrN par kid = true then 40 :: (s ++ [41]) else s
def joinL : List (List Nat) → List Nat
  | [] => []
  | [x] => x
  | x :: y :: r => x ++ 124 :: joinL (y :: r)
def tx : Pt → List Nat × List (List Nat) × List (List Nat)
  | .empty => ([], [], [])
  | .set s => (setL (pr s), [], [])
  | .ref nm => (123 :: (nm ++ [125]), [], [])
  | .rep t lo hi => (kidL 5 (opN t) (tx t).1 ++ timesL lo hi, [], [])
  | .cat f => ((tx f).2.1.flatten, [], [])
  | .alt f => (joinL (tx f).2.2, [], [])
  | .nil => ([], [], [])
  | .cons t f => ([], kidL 3 (opN t) (tx t).1 :: (tx f).2.1, kidL 4 (opN t) (tx t).1 :: (tx f).2.2)
abbrev txt (t : Pt) : List Nat := (tx t).1
def txAll : Pt → List (List Nat)
  | .empty => [[]]
  | .set s => [txt (.set s)]
  | .ref nm => [txt (.ref nm)]
  | .rep t lo hi => txAll t ++ [txt (.rep t lo hi)]
  | .cat f => txAll f ++ [txt (.cat f)]
  | .alt f => txAll f ++ [txt (.alt f)]
  | .nil => []
  | .cons t f => txAll t ++ txAll f
theorem txAll_len : ∀ t : Pt, (txAll t).length = t.sz
  | .empty => rfl
  | .set _ => rfl
  | .ref _ => rfl
  | .rep t _ _ => by simp [txAll, Pt.sz, txAll_len t]
  | .cat f => by simp [txAll, Pt.sz, txAll_len f]
  | .alt f => by simp [txAll, Pt.sz, txAll_len f]
  | .nil => rfl
  | .cons t f => by simp [txAll, Pt.sz, txAll_len t, txAll_len f]
theorem sz_pos {t : Pt} (h : t.wf true) : 1 ≤ t.sz := by
  cases t <;> simp [Pt.sz, Pt.wf] at h ⊢
theorem txAll_last {t : Pt} (h : t.wf true) : ∃ l, txAll t = l ++ [txt t] := by
  cases t with
  | empty => exact ⟨[], rfl⟩
  | set s => exact ⟨[], rfl⟩
  | ref nm => exact ⟨[], rfl⟩
  | rep t lo hi => exact ⟨txAll t, rfl⟩
  | cat f => exact ⟨txAll f, rfl⟩
  | alt f => exact ⟨txAll f, rfl⟩
  | nil => simp [Pt.wf] at h
  | cons t f => simp [Pt.wf] at h
theorem flat_last {t : Pt} (h : t.wf true) (n : Nat) : ∃ l x, t.flat n = l ++ [x] ∧ x.Op = (opN t : Int) := by
  cases t with
  | empty => exact ⟨[], _, rfl, rfl⟩
  | set s => exact ⟨[], _, rfl, rfl⟩
  | ref nm => exact ⟨[], _, rfl, rfl⟩
  | rep t lo hi => exact ⟨t.flat n, _, rfl, rfl⟩
  | cat f => exact ⟨f.flat n, _, rfl, rfl⟩
  | alt f => exact ⟨f.flat n, _, rfl, rfl⟩
  | nil => simp [Pt.wf] at h
  | cons t f => simp [Pt.wf] at h
def kids : Nat → Pt → List (Nat × Nat × List Nat)
  | n, .cons t f => (n + t.sz - 1, opN t, txt t) :: kids (n + t.sz) f
  | _, _ => []
theorem kids_roots : ∀ (f : Pt) (n : Nat), f.wf false → f.roots n = (kids n f).map fun q => ((q.1 : Nat) : Int)
  | .cons t f, n, h => by
    have h1 := sz_pos h.1
    rw [Pt.roots, kids, List.map_cons, kids_roots f (n + t.sz) h.2]
    congr 1
    simp only
    omega
  | .nil, _, _ => rfl
  | .empty, _, h => by simp [Pt.wf] at h
  | .set _, _, h => by simp [Pt.wf] at h
  | .ref _, _, h => by simp [Pt.wf] at h
  | .rep _ _ _, _, h => by simp [Pt.wf] at h
  | .cat _, _, h => by simp [Pt.wf] at h
  | .alt _, _, h => by simp [Pt.wf] at h
theorem kids_cat : ∀ (f : Pt) (n : Nat), (tx f).2.1 = (kids n f).map (fun q => kidL 3 q.2.1 q.2.2) ∨ f.wf false = False
  | .cons t f, n => by
    rcases kids_cat f (n + t.sz) with h | h
    · left; rw [tx, kids, List.map_cons, ← h]
    · right; simp only [Pt.wf, h, and_false]
  | .nil, _ => .inl rfl
  | .empty, _ => .inl rfl
  | .set _, _ => .inl rfl
  | .ref _, _ => .inl rfl
  | .rep _ _ _, _ => .inl rfl
  | .cat _, _ => .inl rfl
  | .alt _, _ => .inl rfl
theorem kids_alt : ∀ (f : Pt) (n : Nat), (tx f).2.2 = (kids n f).map (fun q => kidL 4 q.2.1 q.2.2) ∨ f.wf false = False
  | .cons t f, n => by
    rcases kids_alt f (n + t.sz) with h | h
    · left; rw [tx, kids, List.map_cons, ← h]
    · right; simp only [Pt.wf, h, and_false]
  | .nil, _ => .inl rfl
  | .empty, _ => .inl rfl
  | .set _, _ => .inl rfl
  | .ref _, _ => .inl rfl
  | .rep _ _ _, _ => .inl rfl
  | .cat _, _ => .inl rfl
  | .alt _, _ => .inl rfl
theorem kids_len (f : Pt) : ∀ n, (kids n f).length ≤ f.sz ∨ f.wf false = False := by
  induction f with
  | cons t f _ ih =>
    intro n
    rcases ih (n + t.sz) with h | h
    · by_cases hw : t.wf true
      · have := sz_pos hw
        left; rw [kids, List.length_cons, Pt.sz]; omega
      · right; simp [Pt.wf, hw]
    · right; simp only [Pt.wf, h, and_false]
  | _ => intro n; left; simp [kids]
/- How long a text is. -/
theorem spL_len : ∀ xs : List (Nat × Nat), (∀ x ∈ xs, x.1 < 256 ∧ x.2 < 256) → (spL xs).length ≤ 9 * xs.length
  | [], _ => by simp [spL]
  | x :: xs, h => by
    obtain ⟨h1, h2⟩ := h x (by simp)
    have h3 := pbL_len h1
    have h4 := pbL_len h2
    have ih := spL_len xs fun y hy => h y (by simp [hy])
    rw [spL, List.length_append, List.length_append, List.length_cons]
    split
    · simp only [List.length_nil]; omega
    · simp only [List.length_cons]; omega
theorem setL_len (p : Nat → Bool) : (setL p).length ≤ 2400 := by
  have h1 := spL_len _ (spans0_lt p)
  have h2 := spans0_len (els p)
  have h3 := els_len p
  have rest : (if (st p).same (st fun c => !(c == 10)) = true then [46] else 91 :: (spL (spans0 (els p)) ++ [93])).length ≤ 2400 := by
    split
    · simp
    · simp only [List.length_cons, List.length_append, List.length_nil]; omega
  rw [setL]
  cases hq : els p with
  | nil => rw [hq] at rest; exact rest
  | cons c l =>
    cases l with
    | nil =>
      have := pbL_len (mem_els.1 (by rw [hq]; simp : c ∈ els p)).1
      rw [setB]; omega
    | cons d l => rw [hq] at rest; exact rest
theorem timesL_len (lo hi : Int) : (timesL lo hi).length ≤ 13 := by
  have h1 := dg_len lo.toNat
  have h2 := dg_len hi.toNat
  unfold timesL
  repeat (first | split | (simp only [List.length_cons, List.length_append, List.length_nil]; omega))
theorem kidL_len (par kid : Nat) (s : List Nat) : (kidL par kid s).length ≤ s.length + 2 := by
  unfold kidL
  split
  · simp
  · omega
theorem joinL_len : ∀ l : List (List Nat), (joinL l).length ≤ l.flatten.length + l.length
  | [] => by simp [joinL]
  | [x] => by simp [joinL]
  | x :: y :: r => by
    have := joinL_len (y :: r)
    rw [joinL, List.length_append, List.length_cons, List.flatten_cons, List.length_append, List.length_cons (a := x)]
    omega
theorem tx_len : ∀ (t : Pt) (b : Bool), t.wf b → (b = true → (tx t).1.length + 3 ≤ 3000 * t.sz) ∧ (b = false → (tx t).2.1.flatten.length ≤ 3000 * t.sz ∧ (tx t).2.2.flatten.length + (tx t).2.2.length ≤ 3000 * t.sz ∧ (∀ x ∈ (tx t).2.1, x.length ≤ 3000 * t.sz))
  | .empty, b, h => ⟨fun _ => by simp [tx, Pt.sz], fun hb => by subst hb; simp [Pt.wf] at h⟩
  | .set s, b, h => ⟨fun _ => by have := setL_len (pr s); simp only [tx, Pt.sz]; omega, fun hb => by subst hb; simp [Pt.wf] at h⟩
  | .ref nm, b, h => ⟨fun hb => by
      subst hb
      have : nm.length ≤ 32 := by
        have := h.1
        simp only [nameOk, Bool.and_eq_true, decide_eq_true_eq] at this
        exact this.2
      simp only [tx, Pt.sz, List.length_cons, List.length_append, List.length_nil]; omega, fun hb => by subst hb; simp [Pt.wf] at h⟩
  | .rep t lo hi, b, h => by
    cases b with
    | false => simp [Pt.wf] at h
    | true =>
      have h1 := (tx_len t true h.1).1 rfl
      have h2 := kidL_len 5 (opN t) (tx t).1
      have h3 := timesL_len lo hi
      refine ⟨fun _ => ?_, fun hb => by cases hb⟩
      simp only [tx, Pt.sz, List.length_append]
      omega
  | .cat f, b, h => by
    cases b with
    | false => simp [Pt.wf] at h
    | true =>
      have h1 := ((tx_len f false h.2).2 rfl).1
      refine ⟨fun _ => ?_, fun hb => by cases hb⟩
      simp only [tx, Pt.sz]
      omega
  | .alt f, b, h => by
    cases b with
    | false => simp [Pt.wf] at h
    | true =>
      have h1 := ((tx_len f false h.2).2 rfl).2.1
      have h2 := joinL_len (tx f).2.2
      refine ⟨fun _ => ?_, fun hb => by cases hb⟩
      simp only [tx, Pt.sz]
      omega
  | .nil, b, h => by
    cases b with
    | true => simp [Pt.wf] at h
    | false => exact ⟨fun hb => (by cases hb), fun _ => by simp [tx]⟩
  | .cons t f, b, h => by
    cases b with
    | true => simp [Pt.wf] at h
    | false =>
      have h1 := (tx_len t true h.1).1 rfl
      obtain ⟨h2, h3, h4⟩ := (tx_len f false h.2).2 rfl
      have k3 := kidL_len 3 (opN t) (tx t).1
      have k4 := kidL_len 4 (opN t) (tx t).1
      refine ⟨fun hb => (by cases hb), fun _ => ⟨?_, ?_, ?_⟩⟩
      · simp only [tx, Pt.sz, List.flatten_cons, List.length_append]; omega
      · simp only [tx, Pt.sz, List.flatten_cons, List.length_append, List.length_cons]; omega
      · intro x hx
        simp only [tx, Pt.sz] at hx ⊢
        rcases List.mem_cons.1 hx with rfl | hx
        · omega
        · have := h4 x hx; omega
/- Joins. -/
theorem join_flat (ls : List (List Nat)) : joinS (ls.map toB) (⟨#[]⟩ : ByteArray) = toB ls.flatten := by
  have h : ∀ ls : List (List UInt8), Lib.join ls [] = ls.flatten := by
    intro ls
    cases ls with
    | nil => rfl
    | cons x r => rw [Lib.join_cons, Lib.joinTail]; simp
  rw [joinS, toB, show (⟨#[]⟩ : ByteArray).data.toList = [] from rfl, h]
  simp [toB, List.map_flatten, Function.comp_def]
theorem join_bar (ls : List (List Nat)) : joinS (ls.map toB) (⟨#[124]⟩ : ByteArray) = toB (joinL ls) := by
  have h : ∀ ls : List (List Nat), Lib.join (ls.map fun l => l.map UInt8.ofNat) [124] = (joinL ls).map UInt8.ofNat := by
    intro ls
    cases ls with
    | nil => rfl
    | cons x r =>
      rw [List.map_cons, Lib.join_cons]
      induction r generalizing x with
      | nil => simp [Lib.joinTail, joinL]
      | cons y r ih =>
        have := ih y
        have e : (joinL (x :: y :: r)).map UInt8.ofNat = x.map UInt8.ofNat ++ 124 :: (joinL (y :: r)).map UInt8.ofNat := by rw [joinL, List.map_append]; rfl
        rw [e, ← this]
        simp [Lib.joinTail]
  rw [joinS, toB, show (⟨#[124]⟩ : ByteArray).data.toList = [124] from rfl, ← h]
  simp [toB, Function.comp_def]
theorem wrapped_ok (K par kid : Nat) : pW K (par : Int) (kid : Int) = some (wrN par kid) := by
  have beq : ∀ a b : Nat, ((a : Int) == (b : Int)) = decide (a = b) := fun a b => by rw [Bool.eq_iff_iff]; simp; omega
  have b4 := beq kid 4
  have b1 := beq kid 1
  have b3 := beq kid 3
  have p4 : ((par : Int) != 4) = (par != 4) := by
    have := beq par 4
    have e2 : (par == 4) = decide (par = 4) := by rw [Bool.eq_iff_iff]; simp
    simp only [bne, e2]
    rw [show ((par : Int) == 4) = decide (par = 4) from this]
  rw [pW, show ((kid : Int) == 4) = decide (kid = 4) from b4, show ((kid : Int) == 1) = decide (kid = 1) from b1, show ((kid : Int) == 3) = decide (kid = 3) from b3, wrN]
  by_cases h4 : kid = 4
  · rw [decide_eq_true h4, cT, if_pos h4]
  · rw [decide_eq_false h4, cF, if_neg h4]
    by_cases h1 : kid = 1
    · rw [decide_eq_true h1, cT, if_pos (.inl h1), pW_j0, cT, p4]
    · rw [decide_eq_false h1, cF]
      by_cases h3 : kid = 3
      · rw [decide_eq_true h3, if_pos (.inr h3), pW_j0, cT, p4]
      · rw [decide_eq_false h3, if_neg (by omega), pW_j0, cF]
theorem kids_loop (K : Nat) (go : List aNd → Int → Int → List ByteArray → Option (ByteArray × Bool)) (x0 : List aNd) (out : List ByteArray) (i a : Int) (op : Nat) (S : Arr4) (Lf : List Int) (lo hi : Int) (nm : ByteArray) (kk : List (Nat × Nat × List Nat)) (hl : kk.length ≤ 2000)
    (hk : ∀ q ∈ kk, (∃ x, x0[q.1]? = some x ∧ x.Op = (q.2.1 : Int)) ∧ out[q.1]? = some (toB q.2.2) ∧ q.2.2.length ≤ 10000000) :
    ∀ m k j, kk.length - j = m → j ≤ kk.length → m < k →
      pT_l1 K go k x0 i a i (kk.map fun q => ((q.1 : Nat) : Int)) (kk.length : Int) (j : Int) out (op : Int) S Lf lo hi nm ((kk.take j).map fun q => toB (kidL op q.2.1 q.2.2)) =
      pT_l1 K go 1 x0 i a i (kk.map fun q => ((q.1 : Nat) : Int)) (kk.length : Int) (kk.length : Int) out (op : Int) S Lf lo hi nm (kk.map fun q => toB (kidL op q.2.1 q.2.2)) := by
  intro m
  induction m with
  | zero =>
    intro k j hm hj hk'
    obtain ⟨k, rfl⟩ : ∃ k', k = k' + 1 := ⟨k - 1, by omega⟩
    have hj' : j = kk.length := by omega
    subst hj'
    rw [List.take_length, pT_l1, pT_l1]
    dsimp only
    rw [decide_eq_false (by omega), cF, cF]
  | succ m ih =>
    intro k j hm hj hk'
    obtain ⟨k, rfl⟩ : ∃ k', k = k' + 1 := ⟨k - 1, by omega⟩
    have hlt : j < kk.length := by omega
    obtain ⟨⟨x, hx, hop⟩, ho, hsz⟩ := hk kk[j] (List.getElem_mem hlt)
    have e : IntKind.i64.wrap ((j : Int) + 1) = ((j + 1 : Nat) : Int) := by rw [IntKind.wrap_i64]; omega
    have g1 : geti (kk.map fun q => ((q.1 : Nat) : Int)) (j : Int) = some ((kk[j].1 : Nat) : Int) := by
      rw [geti_nat (by simpa using hlt)]; simp
    have getn : ∀ {α : Type} {l : List α} {n : Nat} {y : α}, l[n]? = some y → geti l (n : Int) = some y := fun {α l n y} h => by
      obtain ⟨h1, h2⟩ := List.getElem?_eq_some_iff.1 h
      rw [geti_nat h1, h2]
    have htake : (kk.take (j + 1)).map (fun q => toB (kidL op q.2.1 q.2.2)) = (kk.take j).map (fun q => toB (kidL op q.2.1 q.2.2)) ++ [toB (kidL op kk[j].2.1 kk[j].2.2)] := by
      rw [← List.take_append_getElem hlt, List.map_append]; rfl
    have hroom : ∀ x : ByteArray, roomy 16 (((kk.take j).map fun q => toB (kidL op q.2.1 q.2.2)).length + [x].length) = true := fun x => roomy_iff.2 (by
      simp only [List.length_map, List.length_take, List.length_singleton, maxLen]; omega)
    have hih := ih k (j + 1) (by omega) (by omega) (by omega)
    rw [htake] at hih
    rw [pT_l1]
    dsimp only
    rw [decide_eq_true (by omega), cT, g1, bS, getn ho, bS, getn hx, bS, hop, wrapped_ok, bS]
    by_cases hw : wrN op kk[j].2.1 = true
    · have hkl : toB (kidL op kk[j].2.1 kk[j].2.2) = ((⟨#[40]⟩ : ByteArray) ++ toB kk[j].2.2) ++ (⟨#[41]⟩ : ByteArray) := by
        rw [kidL, if_pos hw, show (⟨#[40]⟩ : ByteArray) = toB [40] from rfl, show (⟨#[41]⟩ : ByteArray) = toB [41] from rfl, ← toB_append, ← toB_append]; rfl
      have q1 : (⟨#[40]⟩ : ByteArray).size = 1 := rfl
      have q2 : (⟨#[41]⟩ : ByteArray).size = 1 := rfl
      rw [hw, cT, ck_pos (by rw [q1, toB_size]; omega), ck_pos (by rw [ByteArray.size_append, q1, q2, toB_size]; omega), pT_j2, ck_pos (hroom _), e, ← hkl]
      exact hih
    · have hkl : kidL op kk[j].2.1 kk[j].2.2 = kk[j].2.2 := by rw [kidL, if_neg hw]
      rw [Bool.not_eq_true] at hw
      rw [hkl] at hih
      rw [hw, cF, pT_j2, ck_pos (hroom _), e]
      exact hih
end Go.Rv
namespace Go.Rv
theorem getn {α : Type} {l : List α} {n : Nat} {y : α} (h : l[n]? = some y) : geti l (n : Int) = some y := by
  obtain ⟨h1, h2⟩ := List.getElem?_eq_some_iff.1 h
  rw [geti_nat h1, h2]
def AtN (x0 : List aNd) (n : Nat) (l : List aNd) : Prop := ∀ j x, l[j]? = some x → x0[n + j]? = some x
theorem AtN.left {x0 : List aNd} {n : Nat} {l m : List aNd} (h : AtN x0 n (l ++ m)) : AtN x0 n l := fun j x hj => h j x (by
  rw [List.getElem?_append_left (List.getElem?_eq_some_iff.1 hj).1]; exact hj)
theorem AtN.right {x0 : List aNd} {n : Nat} {l m : List aNd} (h : AtN x0 n (l ++ m)) : AtN x0 (n + l.length) m := fun j x hj => by
  have := h (l.length + j) x (by rw [List.getElem?_append_right (by omega)]; simpa using hj)
  rwa [← Nat.add_assoc] at this
theorem AtN.root {x0 : List aNd} {n : Nat} {t : Pt} (hw : t.wf true) (h : AtN x0 n (t.flat n)) : ∃ x, x0[n + t.sz - 1]? = some x ∧ x.Op = (opN t : Int) := by
  obtain ⟨l, x, h1, h2⟩ := flat_last hw n
  have h3 := Pt.flat_len t n
  rw [h1, List.length_append, List.length_singleton] at h3
  have := h l.length x (by rw [h1]; simp)
  exact ⟨x, by rw [show n + t.sz - 1 = n + l.length by omega]; exact this, h2⟩
theorem kids_at {x0 : List aNd} : ∀ (f : Pt) (n : Nat) (A B : List ByteArray), f.wf false → AtN x0 n (f.flat n) → A.length = n → f.sz ≤ 1100 →
    ∀ q ∈ kids n f, (∃ x, x0[q.1]? = some x ∧ x.Op = (q.2.1 : Int)) ∧ (A ++ ((txAll f).map toB ++ B))[q.1]? = some (toB q.2.2) ∧ q.2.2.length ≤ 10000000
  | .cons t f, n, A, B, hw, hx, hA, hs => by
    intro q hq
    have h1 : AtN x0 n (t.flat n) := AtN.left hx
    have h2 := AtN.right hx
    rw [Pt.flat_len] at h2
    have hp := sz_pos hw.1
    rw [Pt.sz] at hs
    rw [kids] at hq
    rcases List.mem_cons.1 hq with rfl | hq
    · refine ⟨AtN.root hw.1 h1, ?_, ?_⟩
      · obtain ⟨l, hl⟩ := txAll_last hw.1
        have hlen := txAll_len t
        rw [hl, List.length_append, List.length_singleton] at hlen
        simp only
        rw [List.getElem?_append_right (by omega), txAll, List.map_append, List.append_assoc, List.getElem?_append_left (by rw [List.length_map, txAll_len]; omega), hl, List.map_append, List.getElem?_append_right (by rw [List.length_map]; omega), List.length_map, show n + t.sz - 1 - A.length - l.length = 0 by omega]
        rfl
      · have := (tx_len t true hw.1).1 rfl
        show (tx t).1.length ≤ _
        omega
    · have := kids_at f (n + t.sz) (A ++ (txAll t).map toB) B hw.2 h2 (by rw [List.length_append, List.length_map, txAll_len, hA]) (by omega) q hq
      rw [txAll, List.map_append]
      simpa only [List.append_assoc] using this
  | .nil, n, A, B, _, _, _, _ => fun q hq => by simp [kids] at hq
  | .empty, _, _, _, h, _, _, _ => by simp [Pt.wf] at h
  | .set _, _, _, _, h, _, _, _ => by simp [Pt.wf] at h
  | .ref _, _, _, _, h, _, _, _ => by simp [Pt.wf] at h
  | .rep _ _ _, _, _, _, h, _, _, _ => by simp [Pt.wf] at h
  | .cat _, _, _, _, h, _, _, _ => by simp [Pt.wf] at h
  | .alt _, _, _, _, h, _, _, _ => by simp [Pt.wf] at h
abbrev e0 : ByteArray := ⟨#[]⟩
theorem set_mid {α : Type} (A B : List α) (x y : α) : (A ++ (x :: B)).set A.length y = A ++ (y :: B) := by simp
theorem get_mid {α : Type} (A B : List α) (x : α) : (A ++ (x :: B))[A.length]? = some x := by simp
theorem node_step (K k : Nat) (hK : 3000 ≤ K) (x0 : List aNd) (hlen : x0.length ≤ 1100) (A B : List ByteArray) (kk : List (Nat × Nat × List Nat)) (op : Nat) (S : Arr4) (lo hi : Int) (nm : ByteArray) (hl : kk.length ≤ 2000)
    (hnode : x0[A.length]? = some ⟨(op : Int), S, kk.map fun q => ((q.1 : Nat) : Int), lo, hi, nm⟩)
    (hk : ∀ q ∈ kk, (∃ x, x0[q.1]? = some x ∧ x.Op = (q.2.1 : Int)) ∧ (A ++ (e0 :: B))[q.1]? = some (toB q.2.2) ∧ q.2.2.length ≤ 10000000) :
    pT_l0 K (k + 1) x0 (x0.length : Int) (A.length : Int) (A ++ (e0 :: B)) =
    pT_l1 K (pT_l0 K k) 1 x0 (A.length : Int) (x0.length : Int) (A.length : Int) (kk.map fun q => ((q.1 : Nat) : Int)) (kk.length : Int) (kk.length : Int) (A ++ (e0 :: B)) (op : Int) S (kk.map fun q => ((q.1 : Nat) : Int)) lo hi nm (kk.map fun q => toB (kidL op q.2.1 q.2.2)) := by
  have hlt := (List.getElem?_eq_some_iff.1 hnode).1
  have hloop := kids_loop K (pT_l0 K k) x0 (A ++ (e0 :: B)) (A.length : Int) (x0.length : Int) op S (kk.map fun q => ((q.1 : Nat) : Int)) lo hi nm kk hl hk kk.length K 0 rfl (Nat.zero_le _) (by omega)
  rw [pT_l0]
  dsimp only
  rw [decide_eq_true (by omega), cT, getn hnode, bS]
  dsimp only
  rw [List.length_map]
  exact hloop
theorem step_next (i : Nat) (h : i < 100000) : IntKind.i64.wrap ((i : Int) + 1) = ((i + 1 : Nat) : Int) := by rw [IntKind.wrap_i64]; omega
section
variable (K k : Nat) (x0 : List aNd) (A B : List ByteArray) (hA : A.length < 2000)
include hA
theorem end_put (op : Nat) (L Lf : List Int) (S : Arr4) (lo hi : Int) (nm : ByteArray) (W : List ByteArray) (text : List Nat) (n : Int)
    (h : op = 1 ∧ text = [] ∨ op = 2 ∧ print_Set K S = some (toB text) ∨ op = 6 ∧ (text = 123 :: (bs nm ++ [125])) ∧ nm.size ≤ 1000 ∨
      op = 5 ∧ (∃ w W' u, W = toB w :: W' ∧ print_times K lo hi = some (toB u) ∧ text = w ++ u ∧ text.length ≤ 100000000) ∨
      op = 3 ∧ (∃ ls : List (List Nat), W = ls.map toB ∧ text = ls.flatten ∧ ls.length ≤ 2000 ∧ text.length ≤ 100000000) ∨
      op = 4 ∧ (∃ ls : List (List Nat), W = ls.map toB ∧ text = joinL ls ∧ ls.length ≤ 2000 ∧ text.length ≤ 100000000)) :
    pT_l1 K (pT_l0 K k) 1 x0 (A.length : Int) (x0.length : Int) (A.length : Int) L n n (A ++ (e0 :: B)) (op : Int) S Lf lo hi nm W = pT_l0 K k x0 (x0.length : Int) ((A.length + 1 : Nat) : Int) (A ++ (toB text :: B)) := by
  have hg : geti (A ++ (e0 :: B)) (A.length : Int) = some e0 := getn (get_mid A B e0)
  have hs : ∀ y, List.set (A ++ (e0 :: B)) (Int.toNat (A.length : Int)) y = A ++ (y :: B) := fun y => by rw [Int.toNat_natCast, set_mid]
  rw [pT_l1]
  dsimp only
  rw [decide_eq_false (by omega), cF]
  rcases h with ⟨rfl, rfl⟩ | ⟨rfl, h⟩ | ⟨rfl, rfl, h⟩ | ⟨rfl, w, W', u, rfl, h, rfl, hl⟩ | ⟨rfl, ls, rfl, rfl, h1, hl⟩ | ⟨rfl, ls, rfl, rfl, h1, hl⟩
  · simp only [show (((1 : Nat) : Int) == 2) = false from rfl, show (((1 : Nat) : Int) == 6) = false from rfl, show (((1 : Nat) : Int) == 5) = false from rfl, show (((1 : Nat) : Int) == 3) = false from rfl, show (((1 : Nat) : Int) == 4) = false from rfl, cF]
    rw [step_next _ (by omega)]
    rfl
  · simp only [show (((2 : Nat) : Int) == 2) = true from rfl, cT]
    rw [h, bS, hg, bS, step_next _ (by omega), hs]
  · simp only [show (((6 : Nat) : Int) == 2) = false from rfl, show (((6 : Nat) : Int) == 6) = true from rfl, cT, cF]
    have q1 : (⟨#[123]⟩ : ByteArray).size = 1 := rfl
    have q2 : (⟨#[125]⟩ : ByteArray).size = 1 := rfl
    have e : ((⟨#[123]⟩ : ByteArray) ++ nm) ++ (⟨#[125]⟩ : ByteArray) = toB (123 :: (bs nm ++ [125])) := by
      rw [show (123 :: (bs nm ++ [125])) = ([123] ++ bs nm) ++ [125] from by simp, toB_append, toB_append, toB_bs]; rfl
    rw [ck_pos (by rw [q1]; omega), ck_pos (by rw [ByteArray.size_append, q1, q2]; omega), hg, bS, step_next _ (by omega), hs, e]
  · simp only [show (((5 : Nat) : Int) == 2) = false from rfl, show (((5 : Nat) : Int) == 6) = false from rfl, show (((5 : Nat) : Int) == 5) = true from rfl, cT, cF]
    have hw : geti (toB w :: W') (0 : Int) = some (toB w) := rfl
    rw [List.length_append] at hl
    rw [hw, bS, h, bS, ck_pos (by rw [toB_size, toB_size]; omega), hg, bS, step_next _ (by omega), hs, toB_append]
  · simp only [show (((3 : Nat) : Int) == 2) = false from rfl, show (((3 : Nat) : Int) == 6) = false from rfl, show (((3 : Nat) : Int) == 5) = false from rfl, show (((3 : Nat) : Int) == 3) = true from rfl, cT, cF]
    rw [strings_Join, join_flat, if_pos ⟨by rw [List.length_map]; omega, by rw [toB_size]; omega⟩, bS, hg, bS, step_next _ (by omega), hs]
  · simp only [show (((4 : Nat) : Int) == 2) = false from rfl, show (((4 : Nat) : Int) == 6) = false from rfl, show (((4 : Nat) : Int) == 5) = false from rfl, show (((4 : Nat) : Int) == 3) = false from rfl, show (((4 : Nat) : Int) == 4) = true from rfl, cT, cF]
    rw [strings_Join, join_bar, if_pos ⟨by rw [List.length_map]; omega, by rw [toB_size]; omega⟩, bS, hg, bS, step_next _ (by omega), hs]
end
def OkSets : Pt → Prop
  | .set s => s = st (pr s)
  | .rep t _ _ => OkSets t
  | .cat f => OkSets f
  | .alt f => OkSets f
  | .cons t f => OkSets t ∧ OkSets f
  | _ => True
theorem rep_split {α : Type} (n m : Nat) (x : α) : List.replicate (n + m) x = List.replicate n x ++ List.replicate m x := by rw [List.replicate_append_replicate]
theorem run_ok (K : Nat) (hK : 3000 ≤ K) (x0 : List aNd) (hlen : x0.length ≤ 1100) : ∀ (t : Pt) (b : Bool), t.wf b → OkSets t → ∀ (k : Nat) (A B : List ByteArray), AtN x0 A.length (t.flat A.length) → A.length + t.sz ≤ x0.length →
    pT_l0 K (k + t.sz) x0 (x0.length : Int) (A.length : Int) (A ++ (List.replicate t.sz e0 ++ B)) = pT_l0 K k x0 (x0.length : Int) ((A.length + t.sz : Nat) : Int) (A ++ ((txAll t).map toB ++ B))
  | .empty, b, hw, ho, k, A, B, hx, hs => by
    have hn := hx 0 _ rfl
    have h1 := node_step K k hK x0 hlen A B [] 1 z4 0 0 noB (by simp) hn (fun q hq => by simp at hq)
    have h2 := end_put K k x0 A B (by omega) 1 [] [] z4 0 0 noB [] [] 0 (.inl ⟨rfl, rfl⟩)
    exact h1.trans h2
  | .set s, b, hw, ho, k, A, B, hx, hs => by
    have hn := hx 0 _ rfl
    have h1 := node_step K k hK x0 hlen A B [] 2 s 0 0 noB (by simp) hn (fun q hq => by simp at hq)
    have hset : print_Set K s = some (toB (setL (pr s))) := by
      have := Set_ok K (by omega) (pr s)
      rw [← show s = st (pr s) from ho] at this
      exact this
    have h2 := end_put K k x0 A B (by omega) 2 [] [] s 0 0 noB [] (setL (pr s)) 0 (.inr (.inl ⟨rfl, hset⟩))
    exact h1.trans h2
  | .ref nm, b, hw, ho, k, A, B, hx, hs => by
    cases b with
    | false => simp [Pt.wf] at hw
    | true =>
      have hn := hx 0 _ rfl
      have h1 := node_step K k hK x0 hlen A B [] 6 z4 0 0 (toB nm) (by simp) hn (fun q hq => by simp at hq)
      have hl : nm.length ≤ 32 := by
        have := hw.1
        simp only [nameOk, Bool.and_eq_true, decide_eq_true_eq] at this
        exact this.2
      have h2 := end_put K k x0 A B (by omega) 6 [] [] z4 0 0 (toB nm) [] (123 :: (nm ++ [125])) 0 (.inr (.inr (.inl ⟨rfl, by rw [bs_toB hw.2], by rw [toB_size]; omega⟩)))
      exact h1.trans h2
  | .rep t lo hi, b, hw, ho, k, A, B, hx, hs => by
    cases b with
    | false => simp [Pt.wf] at hw
    | true =>
      have hp := sz_pos hw.1
      rw [Pt.sz] at hs
      have hx1 : AtN x0 A.length (t.flat A.length) := AtN.left hx
      have hx2 := AtN.right hx
      rw [Pt.flat_len] at hx2
      have ih := run_ok K hK x0 hlen t true hw.1 ho (k + 1) A ([e0] ++ B) hx1 (by omega)
      have hAl : (A ++ (txAll t).map toB).length = A.length + t.sz := by rw [List.length_append, List.length_map, txAll_len]
      have hn : x0[(A ++ (txAll t).map toB).length]? = some ⟨5, z4, [((A.length + t.sz - 1 : Nat) : Int)], lo, hi, noB⟩ := by
        have := hx2 0 _ rfl
        rw [hAl, show ((A.length + t.sz - 1 : Nat) : Int) = ((A.length + t.sz : Nat) : Int) - 1 by omega]
        exact this
      have hb := (tx_len t true hw.1).1 rfl
      have hkt : ∀ q ∈ [(A.length + t.sz - 1, opN t, txt t)], (∃ x, x0[q.1]? = some x ∧ x.Op = (q.2.1 : Int)) ∧ ((A ++ (txAll t).map toB) ++ (e0 :: B))[q.1]? = some (toB q.2.2) ∧ q.2.2.length ≤ 10000000 := by
        intro q hq
        rw [List.mem_singleton.1 hq]
        have := kids_at (.cons t .nil) A.length A (e0 :: B) ⟨hw.1, trivial⟩ (by rw [Pt.flat, Pt.flat, List.append_nil]; exact hx1) rfl (by simp only [Pt.sz]; omega) (A.length + t.sz - 1, opN t, txt t) (by simp [kids])
        rw [txAll, txAll, List.append_nil] at this
        rwa [List.append_assoc]
      have h1 := node_step K k hK x0 hlen (A ++ (txAll t).map toB) B [(A.length + t.sz - 1, opN t, txt t)] 5 z4 lo hi noB (by simp) hn hkt
      have hbb := (tx_len (.rep t lo hi) true hw).1 rfl
      have h2 := end_put K k x0 (A ++ (txAll t).map toB) B (by omega) 5 [((A.length + t.sz - 1 : Nat) : Int)] [((A.length + t.sz - 1 : Nat) : Int)] z4 lo hi noB [toB (kidL 5 (opN t) (txt t))] (txt (.rep t lo hi)) 1
        (.inr (.inr (.inr (.inl ⟨rfl, kidL 5 (opN t) (txt t), [], timesL lo hi, rfl, ptimes_ok K hw.2.1 hw.2.2.1 hw.2.2.2, rfl, by simp only [Pt.sz] at hbb; show (tx (.rep t lo hi)).1.length ≤ _; omega⟩))))
      have h3 := h1.trans h2
      rw [Pt.sz, rep_split, txAll, List.map_append]
      rw [hAl] at h3
      simp only [List.append_assoc, List.singleton_append, List.map_cons, List.map_nil, List.replicate_one, List.cons_append, List.nil_append] at ih h3 ⊢
      rw [show k + (t.sz + 1) = k + 1 + t.sz by omega, ih, h3, Nat.add_assoc]
  | .cat f, b, hw, ho, k, A, B, hx, hs => by
    cases b with
    | false => simp [Pt.wf] at hw
    | true =>
      rw [Pt.sz] at hs
      have hx1 : AtN x0 A.length (f.flat A.length) := AtN.left hx
      have hx2 := AtN.right hx
      rw [Pt.flat_len] at hx2
      have ih := run_ok K hK x0 hlen f false hw.2 ho (k + 1) A ([e0] ++ B) hx1 (by omega)
      have hAl : (A ++ (txAll f).map toB).length = A.length + f.sz := by rw [List.length_append, List.length_map, txAll_len]
      have hr := kids_roots f A.length hw.2
      have hn : x0[(A ++ (txAll f).map toB).length]? = some ⟨3, z4, (kids A.length f).map fun q => ((q.1 : Nat) : Int), 0, 0, noB⟩ := by
        have := hx2 0 _ rfl
        rw [hAl, ← hr]
        exact this
      have hkl : (kids A.length f).length ≤ f.sz := (kids_len f A.length).resolve_right (fun h => by rw [← h]; exact hw.2)
      have hkt := kids_at f A.length A (e0 :: B) hw.2 hx1 rfl (by omega)
      rw [← List.append_assoc] at hkt
      have h1 := node_step K k hK x0 hlen (A ++ (txAll f).map toB) B (kids A.length f) 3 z4 0 0 noB (by omega) hn hkt
      have hbb := (tx_len (.cat f) true hw).1 rfl
      have hc := (kids_cat f A.length).resolve_right (fun h => by rw [← h]; exact hw.2)
      have h2 := end_put K k x0 (A ++ (txAll f).map toB) B (by omega) 3 ((kids A.length f).map fun q => ((q.1 : Nat) : Int)) ((kids A.length f).map fun q => ((q.1 : Nat) : Int)) z4 0 0 noB ((kids A.length f).map fun q => toB (kidL 3 q.2.1 q.2.2)) (txt (.cat f)) ((kids A.length f).length : Int)
        (.inr (.inr (.inr (.inr (.inl ⟨rfl, (tx f).2.1, by rw [hc, List.map_map]; rfl, rfl, by rw [hc, List.length_map]; omega, by simp only [Pt.sz] at hbb; show (tx (.cat f)).1.length ≤ _; omega⟩)))))
      have h3 := h1.trans h2
      rw [Pt.sz, rep_split, txAll, List.map_append]
      rw [hAl] at h3
      simp only [List.append_assoc, List.singleton_append, List.map_cons, List.map_nil, List.replicate_one, List.cons_append, List.nil_append] at ih h3 ⊢
      rw [show k + (f.sz + 1) = k + 1 + f.sz by omega, ih, h3, Nat.add_assoc]
  | .alt f, b, hw, ho, k, A, B, hx, hs => by
    cases b with
    | false => simp [Pt.wf] at hw
    | true =>
      rw [Pt.sz] at hs
      have hx1 : AtN x0 A.length (f.flat A.length) := AtN.left hx
      have hx2 := AtN.right hx
      rw [Pt.flat_len] at hx2
      have ih := run_ok K hK x0 hlen f false hw.2 ho (k + 1) A ([e0] ++ B) hx1 (by omega)
      have hAl : (A ++ (txAll f).map toB).length = A.length + f.sz := by rw [List.length_append, List.length_map, txAll_len]
      have hr := kids_roots f A.length hw.2
      have hn : x0[(A ++ (txAll f).map toB).length]? = some ⟨4, z4, (kids A.length f).map fun q => ((q.1 : Nat) : Int), 0, 0, noB⟩ := by
        have := hx2 0 _ rfl
        rw [hAl, ← hr]
        exact this
      have hkl : (kids A.length f).length ≤ f.sz := (kids_len f A.length).resolve_right (fun h => by rw [← h]; exact hw.2)
      have hkt := kids_at f A.length A (e0 :: B) hw.2 hx1 rfl (by omega)
      rw [← List.append_assoc] at hkt
      have h1 := node_step K k hK x0 hlen (A ++ (txAll f).map toB) B (kids A.length f) 4 z4 0 0 noB (by omega) hn hkt
      have hbb := (tx_len (.alt f) true hw).1 rfl
      have hc := (kids_alt f A.length).resolve_right (fun h => by rw [← h]; exact hw.2)
      have h2 := end_put K k x0 (A ++ (txAll f).map toB) B (by omega) 4 ((kids A.length f).map fun q => ((q.1 : Nat) : Int)) ((kids A.length f).map fun q => ((q.1 : Nat) : Int)) z4 0 0 noB ((kids A.length f).map fun q => toB (kidL 4 q.2.1 q.2.2)) (txt (.alt f)) ((kids A.length f).length : Int)
        (.inr (.inr (.inr (.inr (.inr ⟨rfl, (tx f).2.2, by rw [hc, List.map_map]; rfl, rfl, by rw [hc, List.length_map]; omega, by simp only [Pt.sz] at hbb; show (tx (.alt f)).1.length ≤ _; omega⟩)))))
      have h3 := h1.trans h2
      rw [Pt.sz, rep_split, txAll, List.map_append]
      rw [hAl] at h3
      simp only [List.append_assoc, List.singleton_append, List.map_cons, List.map_nil, List.replicate_one, List.cons_append, List.nil_append] at ih h3 ⊢
      rw [show k + (f.sz + 1) = k + 1 + f.sz by omega, ih, h3, Nat.add_assoc]
  | .nil, b, hw, ho, k, A, B, hx, hs => rfl
  | .cons t f, b, hw, ho, k, A, B, hx, hs => by
    cases b with
    | true => simp [Pt.wf] at hw
    | false =>
      rw [Pt.sz] at hs
      have hx1 : AtN x0 A.length (t.flat A.length) := AtN.left hx
      have hx2 := AtN.right hx
      rw [Pt.flat_len] at hx2
      have hAl : (A ++ (txAll t).map toB).length = A.length + t.sz := by rw [List.length_append, List.length_map, txAll_len]
      have h1 := run_ok K hK x0 hlen t true hw.1 ho.1 (k + f.sz) A (List.replicate f.sz e0 ++ B) hx1 (by omega)
      have h2 := run_ok K hK x0 hlen f false hw.2 ho.2 k (A ++ (txAll t).map toB) B (by rw [hAl]; exact hx2) (by rw [hAl]; omega)
      rw [hAl] at h2
      rw [Pt.sz, rep_split, txAll, List.map_append]
      simp only [List.append_assoc] at h1 h2 ⊢
      rw [show k + (t.sz + f.sz) = k + f.sz + t.sz by omega, h1, h2, Nat.add_assoc]
theorem Tree_ok (K : Nat) (hK : 6000 ≤ K) {t : Pt} (hw : t.wf true) (hs : t.sz ≤ 1024) (ho : OkSets t) (hn : NodesOk K (t.flat 0)) : pT K (t.flat 0) = some (toB (txt t), true) := by
  have hlen := Pt.flat_len t 0
  have hp := sz_pos hw
  obtain ⟨l, hl⟩ := txAll_last hw
  have htl := txAll_len t
  have hrun := run_ok K (by omega) (t.flat 0) (by omega) t true hw ho (K - t.sz) [] [] (fun j x hj => by simpa using hj) (by simp only [List.length_nil]; omega)
  rw [pT, Right_ok K (by omega) _ hn, flat_right hw hs, bS]
  simp only [Bool.not_true, cF]
  rw [ck_pos (by omega), Int.toNat_natCast, ck_pos (roomy_iff.2 (by rw [hlen]; simp only [maxLen]; omega))]
  simp only [List.length_nil, List.nil_append, List.append_nil, Nat.zero_add] at hrun
  rw [show K - t.sz + t.sz = K by omega] at hrun
  rw [hlen] at hrun ⊢
  rw [show (0 : Int) = ((0 : Nat) : Int) from rfl]
  show pT_l0 K K _ _ _ (List.replicate t.sz e0) = _
  rw [hrun]
  obtain ⟨k, hk⟩ : ∃ k, K - t.sz = k + 1 := ⟨K - t.sz - 1, by omega⟩
  rw [hk, pT_l0]
  dsimp only
  have e1 : IntKind.i64.wrap (((t.flat 0).length : Int) - 1) = ((t.sz - 1 : Nat) : Int) := by rw [hlen, IntKind.wrap_i64]; omega
  rw [hl, List.length_append, List.length_singleton] at htl
  rw [decide_eq_false (by omega), cF, e1, getn (y := toB (txt t)) (by
    rw [hl, List.map_append, List.getElem?_append_right (by rw [List.length_map]; omega), List.length_map, show t.sz - 1 - l.length = 0 by omega]; rfl), bS]
end Go.Rv
namespace Go.Rv
def dgP (n : Nat) : Prop := numV (dg n) = (min n 4097 : Nat) ∧ (dg n).all isDig = true ∧ dg n ≠ []
instance (n : Nat) : Decidable (dgP n) := by unfold dgP; infer_instance
theorem dg_all2 : ∀ a : _root_.Fin 51, ∀ b : _root_.Fin 100, dgP (100 * a.val + b.val) := by decide +kernel
theorem dg_all {n : Nat} (hn : n < 5000) : numV (dg n) = (min n 4097 : Nat) ∧ (dg n).all isDig = true ∧ dg n ≠ [] := by
  have := dg_all2 ⟨n / 100, by omega⟩ ⟨n % 100, Nat.mod_lt _ (by decide)⟩
  simp only [Nat.div_add_mod] at this
  exact this
theorem take_dig {c : Nat} {r : List Nat} (hc : isDig c = false) : ∀ l : List Nat, l.all isDig = true → (l ++ c :: r).takeWhile isDig = l ∧ (l ++ c :: r).dropWhile isDig = c :: r
  | [], _ => by simp [hc]
  | x :: l, h => by
    simp only [List.all_cons, Bool.and_eq_true] at h
    obtain ⟨h1, h2⟩ := take_dig hc l h.2
    refine ⟨?_, ?_⟩
    · rw [List.cons_append, List.takeWhile_cons, if_pos h.1, h1]
    · rw [List.cons_append, List.dropWhile_cons, if_pos h.1, h2]
theorem dig_next {l : List Nat} (h : l.all isDig = true) (h0 : l ≠ []) (r : List Nat) : digNext (l ++ r) = true := by
  cases l with
  | nil => exact absurd rfl h0
  | cons x l =>
    simp only [List.all_cons, Bool.and_eq_true] at h
    exact h.1
theorem timesL_read {lo hi : Int} (h0 : 0 ≤ lo) (h1 : lo ≤ 4096) (h2 : hi = -1 ∨ (1 ≤ hi ∧ lo ≤ hi ∧ hi ≤ 4096)) (r : List Nat) : pTimes (timesL lo hi ++ r) = some (.ok (lo, hi) r) := by
  obtain ⟨a1, a2, a3⟩ := dg_all (n := lo.toNat) (by omega)
  have hlo : numV (dg lo.toNat) = lo := by rw [a1]; omega
  unfold timesL
  by_cases c1 : lo = 0 ∧ hi = -1
  · rw [if_pos c1, c1.1, c1.2]; rfl
  rw [if_neg c1]
  by_cases c2 : lo = 1 ∧ hi = -1
  · rw [if_pos c2, c2.1, c2.2]; rfl
  rw [if_neg c2]
  by_cases c3 : lo = 0 ∧ hi = 1
  · rw [if_pos c3, c3.1, c3.2]; rfl
  rw [if_neg c3]
  have head : ∀ l : List Nat, digNext l = true → pTimes (123 :: l) = some (pBounds (123 :: l) l) := fun l hl => by
    rw [pTimes, if_neg (by decide), if_neg (by decide), if_neg (by decide), if_pos ⟨rfl, hl⟩]
  have fin : ∀ (w : List Nat) (a b : Int) (bad : Bool), bad = false → a ≤ 4096 → b ≤ 4096 → b ≠ 0 → ¬ (0 < b ∧ b < a) → pFin w a b bad (125 :: r) = .ok (a, b) r := fun w a b bad h1 h2 h3 h4 h5 => by
    rw [pFin, if_neg (by simp), if_neg]
    rintro (h | h | h | h | h)
    · rw [h1] at h; cases h
    · omega
    · omega
    · exact h4 h
    · exact h5 h
  by_cases c4 : lo = hi
  · rw [if_pos c4]
    simp only [List.cons_append, List.append_assoc, List.nil_append]
    obtain ⟨t1, t2⟩ := take_dig (c := 125) (r := r) (by decide) _ a2
    rw [head _ (dig_next a2 a3 _), pBounds, t2, t1, hlo]
    simp only
    rw [fin _ _ _ _ (decide_eq_false (by omega)) (by omega) (by omega) (by omega) (by omega)]
    rw [← c4]
  rw [if_neg c4]
  by_cases c5 : hi = -1
  · rw [if_pos c5]
    simp only [List.cons_append, List.append_assoc, List.nil_append]
    obtain ⟨t1, t2⟩ := take_dig (c := 44) (r := 125 :: r) (by decide) _ a2
    rw [head _ (dig_next a2 a3 _), pBounds, t2, t1, hlo]
    simp only
    rw [if_neg (by simp [digNext, isDig]), fin _ _ _ _ (decide_eq_false (by omega)) (by omega) (by omega) (by omega) (by omega), c5]
  rw [if_neg c5]
  obtain ⟨b1, b2, b3⟩ := dg_all (n := hi.toNat) (by omega)
  have hhi : numV (dg hi.toNat) = hi := by rw [b1]; omega
  simp only [List.cons_append, List.append_assoc, List.nil_append]
  obtain ⟨t1, t2⟩ := take_dig (c := 44) (r := dg hi.toNat ++ 125 :: r) (by decide) _ a2
  obtain ⟨t3, t4⟩ := take_dig (c := 125) (r := r) (by decide) _ b2
  rw [head _ (dig_next a2 a3 _), pBounds, t2, t1, hlo]
  simp only
  rw [if_pos (dig_next b2 b3 _), t3, t4, hhi, fin _ _ _ _ (by rw [decide_eq_false (by omega), decide_eq_false (by omega)]; rfl) (by omega) (by omega) (by omega) (by omega)]
theorem timesL_lt {lo hi : Int} (h0 : 0 ≤ lo) (h1 : lo ≤ 4096) (h2 : hi ≤ 4096) : ∀ c ∈ timesL lo hi, c < 256 := by
  have hd : ∀ n : Nat, n < 5000 → ∀ c ∈ dg n, c < 256 := fun n hn c hc => by
    have := List.all_eq_true.1 (dg_all hn).2.1 c hc
    simp only [isDig, Bool.and_eq_true, decide_eq_true_eq] at this
    omega
  have a := hd lo.toNat (by omega)
  have b := hd hi.toNat (by omega)
  intro c hc
  unfold timesL at hc
  repeat' (split at hc)
  · simp at hc; omega
  · simp at hc; omega
  · simp at hc; omega
  · simp only [List.mem_cons, List.mem_append, List.not_mem_nil, or_false] at hc
    rcases hc with h | h | h
    · omega
    · exact a c h
    · omega
  · simp only [List.mem_cons, List.mem_append, List.not_mem_nil, or_false] at hc
    rcases hc with h | h | h | h
    · omega
    · exact a c h
    · omega
    · omega
  · simp only [List.mem_cons, List.mem_append, List.not_mem_nil, or_false] at hc
    rcases hc with h | h | h | h | h
    · omega
    · exact a c h
    · omega
    · exact b c h
    · omega
theorem toB_beq {l m : List Nat} (hl : ∀ c ∈ l, c < 256) (hm : ∀ c ∈ m, c < 256) : ((toB l).toList == (toB m).toList) = decide (l = m) := by
  rw [Bool.eq_iff_iff, beq_iff_eq, decide_eq_true_eq]
  constructor
  · intro h
    rw [ByteArray.toList_eq, ByteArray.toList_eq] at h
    have : bs (toB l) = bs (toB m) := by rw [bs, bs, h]
    rwa [bs_toB hl, bs_toB hm] at this
  · intro h; rw [h]
theorem x_text : setL (pr (st fun x => x == 120)) = [120] := by decide +kernel
theorem Times_j1 (K : Nat) (e : Bool) (a b : Int) (l m : List aNd) (flag : Bool) (hs : r4_Same K l m = some true) (hf : flag = (bif e then decide (a < 2) else (a == 0 && b == 1))) : l5_PrintTimes_j1 K e true a b l true m 0 flag = some true := by
  rw [l5_PrintTimes_j1]
  simp only [cT, show ((0 : Int) == 0) = true from rfl, hs, bS]
  cases e with
  | true =>
    simp only [cT] at hf ⊢
    subst hf
    cases decide (a < 2) <;> rfl
  | false =>
    simp only [cF] at hf ⊢
    subst hf
    simp only [Bool.not_false, cT]
    cases (a == 0) <;> cases (b == 1) <;> rfl
theorem Times_j0 (a b : Int) (ha : 0 ≤ a) (ha2 : a ≤ 4096) (hb : 1 ≤ b) (hab : a ≤ b) (hb2 : b ≤ 4096) (e : Bool) (hi : Int) (hhi : hi = bif e then -1 else b) : l5_PrintTimes_j0 7000 e true a b z4 [0] a hi = some true := by
  have h2 : hi = -1 ∨ (1 ≤ hi ∧ a ≤ hi ∧ hi ≤ 4096) := by
    cases e with
    | true => exact .inl hhi
    | false => exact .inr (by rw [show hi = b from hhi]; omega)
  have ho : r1_Of 7000 [(120 : Int)] = some (st fun x => ([120] : List Nat).contains x) := rOf_spec 7000 [120] (by decide) (by decide) (by decide)
  have e1 : (st fun x => ([120] : List Nat).contains x) = st fun x => x == 120 := st_congr fun b _ => by rw [Bool.eq_iff_iff]; simp
  rw [e1] at ho
  have hne : (st fun x => x == 120) ≠ z4 := fun h => by
    have := st_inj (h.trans st_none) 120 (by decide)
    cases this
  have hos : OkSets (.rep (.set (st fun x => x == 120)) a hi) := by
    show (st fun x => x == 120) = st (pr (st fun x => x == 120))
    decide +kernel
  have hw : (Pt.rep (.set (st fun x => x == 120)) a hi).wf true := ⟨hne, ha, ha2, h2⟩
  have hn : NodesOk 7000 ((Pt.rep (.set (st fun x => x == 120)) a hi).flat 0) := by
    intro n hn
    simp only [Pt.flat, List.cons_append, List.nil_append, List.mem_cons, List.not_mem_nil, or_false] at hn
    rcases hn with rfl | rfl
    · exact ⟨⟨show 0 < 7000 by decide, show 0 ≤ 9223372036854775807 by decide⟩, show 0 < 7000 by decide, show 0 ≤ 9223372036854775807 by decide⟩
    · exact ⟨⟨show 0 < 7000 by decide, show 0 ≤ 9223372036854775807 by decide⟩, show 1 < 7000 by decide, show 1 ≤ 9223372036854775807 by decide⟩
  have ht := Tree_ok 7000 (by decide) hw (show 2 ≤ 1024 by decide) hos hn
  have htx : txt (.rep (.set (st fun x => x == 120)) a hi) = 120 :: timesL a hi := by
    have e : txt (.rep (.set (st fun x => x == 120)) a hi) = kidL 5 2 (setL (pr (st fun x => x == 120))) ++ timesL a hi := by
      rw [txt, tx, tx, opN]
    rw [e, x_text, show kidL 5 2 [120] = [120] from rfl, List.singleton_append]
  have hlt : ∀ c ∈ 120 :: timesL a hi, c < 256 := fun c hc => by
    rcases List.mem_cons.1 hc with rfl | hc
    · decide
    · exact timesL_lt ha ha2 (by omega) c hc
  have hlen := timesL_len a hi
  have hitem : PR (.item 64) (120 :: timesL a hi) (.ok (.rep (.set (st fun x => x == 120)) a hi) []) := by
    have h1 := atom_pb (c := 120) (by decide) 64 (timesL a hi)
    have h3 := timesL_read ha ha2 h2 []
    rw [List.append_nil] at h3
    exact .item1 h1 (.itemR1 h3 (.itemR0 rfl))
  have halt : PR (.alt 64) (120 :: timesL a hi) (.ok (.rep (.set (st fun x => x == 120)) a hi) []) :=
    .alt1 (.row1 (.rowR1 rfl hitem (.rowR0 rfl))) (.altR0 (by simp))
  rw [← bs_toB hlt] at halt
  have hp := Parse_ok 7000 (by decide) (by rw [toB_size, List.length_cons]; omega) halt
  rw [out_ok _ (show ¬ 1024 < (Pt.rep (.set (st fun x => x == 120)) a hi).sz by show ¬ 1024 < 2; decide)] at hp
  rw [htx] at ht
  have hsame := Same_ok 7000 ((Pt.rep (.set (st fun x => x == 120)) a hi).flat 0) ((Pt.rep (.set (st fun x => x == 120)) a hi).flat 0) ⟨show 2 < 7000 by decide, show 2 ≤ 9223372036854775807 by decide⟩ (fun n h => (hn n h).2)
  rw [decide_eq_true rfl] at hsame
  have hnodes : [(aNd.mk (2 : Int) (st fun x => x == 120) [] (0 : Int) (0 : Int) (⟨#[]⟩ : ByteArray)), (aNd.mk (5 : Int) z4 [0] a hi (⟨#[]⟩ : ByteArray))] = (Pt.rep (.set (st fun x => x == 120)) a hi).flat 0 := rfl
  have t42 : ((toB (120 :: timesL a hi)).toList == (⟨#[120, 42]⟩ : ByteArray).toList) = decide (timesL a hi = [42]) := by
    rw [show (⟨#[120, 42]⟩ : ByteArray) = toB [120, 42] from rfl, toB_beq hlt (by decide)]; simp
  have t43 : ((toB (120 :: timesL a hi)).toList == (⟨#[120, 43]⟩ : ByteArray).toList) = decide (timesL a hi = [43]) := by
    rw [show (⟨#[120, 43]⟩ : ByteArray) = toB [120, 43] from rfl, toB_beq hlt (by decide)]; simp
  have t63 : ((toB (120 :: timesL a hi)).toList == (⟨#[120, 63]⟩ : ByteArray).toList) = decide (timesL a hi = [63]) := by
    rw [show (⟨#[120, 63]⟩ : ByteArray) = toB [120, 63] from rfl, toB_beq hlt (by decide)]; simp
  rw [l5_PrintTimes_j0, ho, bS, hnodes, ht, bS]
  simp only
  rw [hp, bS, t42, t43, t63]
  simp only
  have fin : ∀ flag : Bool, flag = (bif e then decide (a < 2) else (a == 0 && b == 1)) → l5_PrintTimes_j1 7000 e true a b ((Pt.rep (.set (st fun x => x == 120)) a hi).flat 0) true ((Pt.rep (.set (st fun x => x == 120)) a hi).flat 0) 0 flag = some true :=
    fun flag hf => Times_j1 7000 e a b _ _ flag hsame hf
  have hcond : (bif e then decide (a < 2) else (a == 0 && b == 1)) = decide (hi = -1 ∧ a < 2 ∨ a = 0 ∧ hi = 1) := by
    rw [Bool.eq_iff_iff, decide_eq_true_eq]
    cases e with
    | true =>
      rw [show hi = -1 from hhi]
      simp
    | false =>
      rw [show hi = b from hhi]
      simp
      omega
  rw [hcond] at fin
  by_cases c1 : a = 0 ∧ hi = -1
  · rw [show timesL a hi = [42] by rw [timesL, if_pos c1], decide_eq_true rfl, cT]
    exact fin true (decide_eq_true (by omega)).symm
  by_cases c2 : a = 1 ∧ hi = -1
  · rw [show timesL a hi = [43] by rw [timesL, if_neg c1, if_pos c2], decide_eq_false (by decide), cF, decide_eq_true rfl, cT]
    exact fin true (decide_eq_true (by omega)).symm
  by_cases c3 : a = 0 ∧ hi = 1
  · rw [show timesL a hi = [63] by rw [timesL, if_neg c1, if_neg c2, if_pos c3], decide_eq_false (by decide), cF, decide_eq_false (by decide), cF]
    exact fin _ (by rw [decide_eq_true rfl]; exact (decide_eq_true (by omega)).symm)
  have hw2 : ∃ w, timesL a hi = 123 :: w := by
    rw [timesL, if_neg c1, if_neg c2, if_neg c3]
    split
    · exact ⟨_, rfl⟩
    · split
      · exact ⟨_, rfl⟩
      · exact ⟨_, rfl⟩
  obtain ⟨w, hw3⟩ := hw2
  rw [hw3, decide_eq_false (by simp), cF, decide_eq_false (by simp), cF, decide_eq_false (by simp)]
  exact fin false (decide_eq_false (by omega)).symm
theorem Times_plain (x y : Int) (hx : 0 ≤ x ∧ x < 65536) (hy : 0 ≤ y ∧ y < 65536) (e : Bool) : l5_PrintTimes 7000 x y e = some true := by
  have m1 : Int.tmod x 4097 = x % 4097 := Int.tmod_eq_emod_of_nonneg hx.1
  have m2 : Int.tmod y 4096 = y % 4096 := Int.tmod_eq_emod_of_nonneg hy.1
  have w1 : IntKind.i64.wrap (x % 4097) = x % 4097 := w64 (by omega) (by omega)
  have w2 : IntKind.i64.wrap (y % 4096) = y % 4096 := w64 (by omega) (by omega)
  have w3 : IntKind.i64.wrap (y % 4096 + 1) = y % 4096 + 1 := w64 (by omega) (by omega)
  rw [l5_PrintTimes, shown_7000, bS]
  simp only [m1, m2, w1, w2, w3]
  cases e with
  | true => exact Times_j0 _ _ (by split <;> omega) (by split <;> omega) (by omega) (by split <;> omega) (by omega) true _ rfl
  | false => exact Times_j0 _ _ (by split <;> omega) (by split <;> omega) (by omega) (by split <;> omega) (by omega) false _ rfl
end Go.Rv

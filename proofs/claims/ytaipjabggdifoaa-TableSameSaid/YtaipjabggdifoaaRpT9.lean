/- TableSame, plainly: bytes tell the automaton. -/
import Derived.Test.YtaipjabggdifoaaRpT8
namespace Go.Rv
inductive All2 {α : Type} (R : α → α → Prop) : List α → List α → Prop
  | nil : All2 R [] []
  | cons {x y : α} {l m : List α} (h : R x y) (k : All2 R l m) : All2 R (x :: l) (y :: m)
theorem All2.of_get {α : Type} {R : α → α → Prop} : ∀ {l m : List α}, l.length = m.length → (∀ i (h1 : i < l.length) (h2 : i < m.length), R l[i] m[i]) → All2 R l m := by
  intro l
  induction l with
  | nil =>
    intro m hl _
    cases m with
    | nil => exact .nil
    | cons y m => simp at hl
  | cons x l ih =>
    intro m hl h
    cases m with
    | nil => simp at hl
    | cons y m => exact .cons (h 0 (by simp) (by simp)) (ih (by simpa using hl) (fun i h1 h2 => h (i + 1) (by simpa using h1) (by simpa using h2)))
theorem All2.all {α : Type} {R : α → α → Prop} {l m : List α} (hl : l.length = m.length) (h : ∀ x ∈ l, ∀ y ∈ m, R x y) : All2 R l m := All2.of_get hl fun _ h1 h2 => h _ (List.getElem_mem h1) _ (List.getElem_mem h2)
/-- What is written so can be read again. -/
def Code {α : Type} (w : α → List Int) (R : α → α → Prop) : Prop := ∀ x y r r', R x y → w x ++ r = w y ++ r' → x = y ∧ r = r'
theorem Code.all {α : Type} {w : α → List Int} {R : α → α → Prop} (h : Code w R) : ∀ {l m : List α} {r r' : List Int}, All2 R l m → l.flatMap w ++ r = m.flatMap w ++ r' → l = m ∧ r = r' := by
  intro l m r r' ha
  induction ha with
  | nil => intro he; exact ⟨rfl, by simpa using he⟩
  | cons hxy k ih =>
    intro he
    rw [List.flatMap_cons, List.flatMap_cons, List.append_assoc, List.append_assoc] at he
    obtain ⟨h1, h2⟩ := h _ _ _ _ hxy he
    obtain ⟨h3, h4⟩ := ih h2
    exact ⟨by rw [h1, h3], h4⟩
theorem numF_code : ∀ (k n m : Nat) (r r' : List Int), n < 128 ^ k → m < 128 ^ k → numF k n ++ r = numF k m ++ r' → n = m ∧ r = r' := by
  intro k
  induction k with
  | zero =>
    intro n m r r' hn hm h
    simp only [Nat.pow_zero] at hn hm
    exact ⟨by omega, by simpa [numF] using h⟩
  | succ k ih =>
    intro n m r r' hn hm h
    simp only [numF] at h
    by_cases h1 : n < 128
    · rw [if_pos h1] at h
      by_cases h2 : m < 128
      · rw [if_pos h2] at h
        simp only [List.cons_append, List.nil_append, List.cons.injEq] at h
        exact ⟨by omega, h.2⟩
      · rw [if_neg h2] at h
        simp only [List.cons_append, List.nil_append, List.cons.injEq] at h
        omega
    · rw [if_neg h1] at h
      by_cases h2 : m < 128
      · rw [if_pos h2] at h
        simp only [List.cons_append, List.nil_append, List.cons.injEq] at h
        omega
      · rw [if_neg h2] at h
        simp only [List.cons_append, List.cons.injEq] at h
        obtain ⟨h3, h4⟩ := ih _ _ _ _ (by rw [Nat.pow_succ] at hn; omega) (by rw [Nat.pow_succ] at hm; omega) h.2
        exact ⟨by omega, h4⟩
def nn (v : Int) : Prop := 0 ≤ v ∧ fits v
theorem num_code : Code numB (fun x y => nn x ∧ nn y) := by
  intro x y r r' ⟨hx, hy⟩ h
  have p9 : (128 : Nat) ^ 9 = 9223372036854775808 := by decide
  simp only [nn, fits] at hx hy
  obtain ⟨h1, h2⟩ := numF_code 9 x.toNat y.toNat r r' (by omega) (by omega) h
  exact ⟨by omega, h2⟩
theorem list_code : Code listW (fun x y => ((∀ v ∈ x, nn v) ∧ x.length ≤ 9223372036854775807) ∧ ((∀ v ∈ y, nn v) ∧ y.length ≤ 9223372036854775807)) := by
  intro x y r r' ⟨⟨hx, hx'⟩, hy, hy'⟩ h
  simp only [listW, List.append_assoc] at h
  obtain ⟨h1, h2⟩ := num_code _ _ _ _ ⟨⟨by omega, fits_len hx'⟩, by omega, fits_len hy'⟩ h
  exact num_code.all (All2.all (by omega) (fun v hv u hu => ⟨hx v hv, hy u hu⟩)) h2
theorem pair_code : Code (fun p : List Int × List Int => listW p.1 ++ listW p.2) (fun x y => (((∀ v ∈ x.1, nn v) ∧ x.1.length ≤ 9223372036854775807) ∧ ((∀ v ∈ y.1, nn v) ∧ y.1.length ≤ 9223372036854775807)) ∧ (((∀ v ∈ x.2, nn v) ∧ x.2.length ≤ 9223372036854775807) ∧ ((∀ v ∈ y.2, nn v) ∧ y.2.length ≤ 9223372036854775807))) := by
  intro x y r r' ⟨h1, h2⟩ h
  simp only [List.append_assoc] at h
  obtain ⟨e1, h⟩ := list_code _ _ _ _ h1 h
  obtain ⟨e2, h⟩ := list_code _ _ _ _ h2 h
  exact ⟨Prod.ext e1 e2, h⟩
theorem cnt_code : Code cntW (fun x y => (nn x.a0 ∧ nn x.a1) ∧ (nn y.a0 ∧ nn y.a1)) := by
  intro x y r r' ⟨⟨h1, h2⟩, h3, h4⟩ h
  simp only [cntW, List.append_assoc] at h
  obtain ⟨e1, h⟩ := num_code _ _ _ _ ⟨h1, h3⟩ h
  obtain ⟨e2, hend⟩ := num_code _ _ _ _ ⟨h2, h4⟩ h
  clear h
  obtain ⟨x0, x1⟩ := x
  obtain ⟨y0, y1⟩ := y
  simp only at e1 e2
  subst e1; subst e2
  exact ⟨rfl, hend⟩
def goodM (g : Int → Nat) (m : api_Move) : Prop := -1 ≤ m.To ∧ m.To < 1000 ∧ m.Ops.length = g m.To
theorem move_code (g : Int → Nat) : Code moveW (fun x y => goodM g x ∧ goodM g y) := by
  intro x y r r' ⟨⟨h1, h2, h3⟩, g1, g2, g3⟩ h
  simp only [moveW, List.append_assoc, w64 (n := x.To + 1) (by omega) (by omega), w64 (n := y.To + 1) (by omega) (by omega)] at h
  obtain ⟨e1, h⟩ := num_code _ _ _ _ ⟨⟨by omega, by simp only [fits]; omega⟩, by omega, by simp only [fits]; omega⟩ h
  have e : x.To = y.To := by omega
  obtain ⟨e2, hend⟩ := List.append_inj h (by rw [h3, g3, e])
  clear h
  obtain ⟨x0, x1⟩ := x
  obtain ⟨y0, y1⟩ := y
  simp only at e e2
  subst e; subst e2
  exact ⟨rfl, hend⟩
theorem row_code (g : Int → Nat) : Code rowW (fun x y => ((-1 ≤ x.1 ∧ x.1 < 1000) ∧ -1 ≤ y.1 ∧ y.1 < 1000) ∧ All2 (fun x y => goodM g x ∧ goodM g y) x.2 y.2) := by
  intro x y r r' ⟨⟨h1, h2⟩, h3⟩ h
  simp only [rowW, List.append_assoc, w64 (n := x.1 + 1) (by omega) (by omega), w64 (n := y.1 + 1) (by omega) (by omega)] at h
  obtain ⟨e1, h⟩ := num_code _ _ _ _ ⟨⟨by omega, by simp only [fits]; omega⟩, by omega, by simp only [fits]; omega⟩ h
  obtain ⟨e2, h⟩ := (move_code g).all h3 h
  exact ⟨Prod.ext (by omega) e2, h⟩
theorem rows_code (g : Int → Nat) : Code (fun z : List (Int × List api_Move) => z.flatMap rowW) (All2 (fun x y => ((-1 ≤ x.1 ∧ x.1 < 1000) ∧ -1 ≤ y.1 ∧ y.1 < 1000) ∧ All2 (fun x y => goodM g x ∧ goodM g y) x.2 y.2)) := by
  intro x y r r' h1 h
  exact (row_code g).all h1 h
theorem splitF_congr (a b : ArrN) : ∀ (m i : Nat) (n many : Int), (∀ j, i ≤ j → j < i + m → a.f j = b.f j) → splitF a m i n many = splitF b m i n many := by
  intro m
  induction m with
  | zero => intro i n many _; rfl
  | succ m ih =>
    intro i n many h
    simp only [splitF, h i (by omega) (by omega), ih (i + 1) _ many (fun j h1 h2 => h j (by omega) (by omega))]
theorem splitF_one (a : ArrN) : ∀ (m i : Nat) (n x y : Int), splitF a m i n x = true → splitF a m i n y = true → x = y := by
  intro m
  induction m with
  | zero => intro i n x y h1 h2; simp [splitF] at h1 h2; omega
  | succ m ih =>
    intro i n x y h1 h2
    simp only [splitF] at h1 h2
    split at h1
    · cases h1
    · rename_i hh
      rw [if_neg hh] at h2
      split at h1
      · rename_i h3
        rw [if_pos h3] at h2
        exact ih _ _ _ _ h1 h2
      · rename_i h3
        rw [if_neg h3] at h2
        exact ih _ _ _ _ h1 h2
theorem split_many {a b : api_Auto} (ha : RightS a) (hb : RightS b) (h : ArrN.list 256 a.Split.Of = ArrN.list 256 b.Split.Of) : a.Split.Many = b.Split.Many := by
  have he : ∀ j, 0 ≤ j → j < 0 + 256 → a.Split.Of.f j = b.Split.Of.f j := fun j _ hj => by
    have h1 : (ArrN.list 256 a.Split.Of)[j]? = (ArrN.list 256 b.Split.Of)[j]? := by rw [h]
    simpa [ArrN.list, List.getElem?_range (show j < 256 by omega)] using h1
  have h1 := ha.split
  have h2 := hb.split
  rw [splitS] at h1 h2
  rw [splitF_congr _ _ 256 0 0 _ he] at h1
  exact splitF_one _ _ _ _ _ _ h1 h2
theorem risesF_ge {b : Int} : ∀ (l : List Int) (last : Int), risesF b last l = true → ∀ x ∈ l, last < x := by
  intro l
  induction l with
  | nil => intro _ _ x hx; cases hx
  | cons n l ih =>
    intro last h x hx
    simp only [risesF, Bool.and_eq_true, Bool.not_eq_true', decide_eq_false_iff_not] at h
    rcases List.mem_cons.1 hx with rfl | hx
    · omega
    · have := ih n h.2.2 x hx; omega
def opsG (a : api_Auto) (t : Int) : Nat := if t = -1 then 0 else (stR a ⟨t, []⟩).length
theorem RightS.goodM {a : api_Auto} (h : RightS a) {s : api_State} {m : api_Move} (hm : moveP a s m = true) : Go.Rv.goodM (opsG a) m ∧ isBytes m.Ops := by
  simp only [moveP] at hm
  split at hm
  · rename_i ht
    have h0 : m.Ops.length = 0 := beq_iff_eq.1 hm
    refine ⟨⟨by omega, by omega, by simp only [opsG, if_pos ht]; exact h0⟩, ?_⟩
    rw [List.length_eq_zero_iff.1 h0]
    intro x hx; cases hx
  · rename_i ht
    simp only [Bool.and_eq_true, decide_eq_true_eq, beq_iff_eq, allB_iff] at hm
    obtain ⟨h1, h2, h3, h4⟩ := hm
    have := h.sl
    refine ⟨⟨by omega, by omega, by simp only [opsG, if_neg ht]; exact h3⟩, fun x hx => ?_⟩
    obtain ⟨i, hi, rfl⟩ := List.getElem_of_mem hx
    have := h4 i (by omega) (by omega)
    simp only [opP, getD_lt hi, Bool.and_eq_true, decide_eq_true_eq] at this
    omega
theorem opsG_congr {a b : api_Auto} (h : a.States.map (·.R) = b.States.map (·.R)) : opsG a = opsG b := by
  funext t
  have : stR a ⟨t, []⟩ = stR b ⟨t, []⟩ := by
    have h1 : (a.States.map (·.R))[t.toNat]? = (b.States.map (·.R))[t.toNat]? := by rw [h]
    simp only [List.getElem?_map] at h1
    simp only [stR, h1]
  simp only [opsG, this]
theorem RightS.lists {a : api_Auto} (h : RightS a) {s : api_State} (hs : s ∈ a.States) : ((∀ v ∈ s.L, nn v) ∧ s.L.length ≤ 9223372036854775807) ∧ ((∀ v ∈ s.R, nn v) ∧ s.R.length ≤ 9223372036854775807) := by
  have h' := stateS.1 (h.st s hs)
  have hl := h'.ll
  have hr := h'.rl
  have hc := h.cl
  refine ⟨⟨fun v hv => ⟨?_, ?_⟩, by omega⟩, fun v hv => ⟨?_, ?_⟩, by omega⟩
  · have := risesF_ge _ _ h'.l v hv; omega
  · have := risesF_lt _ _ h'.l v hv; simp only [fits]; omega
  · have := risesF_ge _ _ h'.r v hv; omega
  · have := risesF_lt _ _ h'.r v hv; simp only [fits]; omega
theorem enc_inj {a b : api_Auto} (ha : RightS a) (hb : RightS b) (h : encS a = encS b) : sameS a b := by
  simp only [encS] at h
  have h := List.append_cancel_left h
  obtain ⟨e0, h⟩ := List.append_inj h (by rw [list_len, list_len])
  obtain ⟨e1, h⟩ := num_code _ _ _ _ ⟨⟨by omega, by simp only [fits]; have := ha.cl; omega⟩, by omega, by simp only [fits]; have := hb.cl; omega⟩ h
  have hcn : ∀ {x : api_Auto}, RightS x → ∀ c ∈ x.Counts, nn c.a0 ∧ nn c.a1 := fun hx c hc => by
    have := hx.cn c hc
    simp only [cntP, Bool.and_eq_true, Bool.not_eq_true', decide_eq_false_iff_not] at this
    simp only [nn, fits]
    omega
  obtain ⟨e2, h⟩ := cnt_code.all (All2.all (by omega) (fun x hx y hy => ⟨hcn ha x hx, hcn hb y hy⟩)) h
  obtain ⟨e3, h⟩ := num_code _ _ _ _ ⟨⟨by omega, by simp only [fits]; have := ha.sl; omega⟩, by omega, by simp only [fits]; have := hb.sl; omega⟩ h
  have e3' : a.States.length = b.States.length := by omega
  have hpr : ∀ x : api_Auto, x.States.flatMap stW = (x.States.map (fun s => (s.L, s.R))).flatMap (fun p : List Int × List Int => listW p.1 ++ listW p.2) := fun x => by rw [List.flatMap_map]; rfl
  rw [hpr a, hpr b] at h
  obtain ⟨e4, h⟩ := pair_code.all (All2.all (by simpa using e3') (fun x hx y hy => by
    obtain ⟨s, hs, rfl⟩ := List.mem_map.1 hx
    obtain ⟨t, ht, rfl⟩ := List.mem_map.1 hy
    have h1 := ha.lists hs
    have h2 := hb.lists ht
    exact ⟨⟨h1.1, h2.1⟩, h1.2, h2.2⟩)) h
  have hR : a.States.map (·.R) = b.States.map (·.R) := by
    have := congrArg (List.map Prod.snd) e4
    rw [List.map_map, List.map_map] at this
    exact this
  have hM := split_many ha hb e0
  have hzz : ∀ x : api_Auto, x.States.flatMap st2W = (x.States.map (fun s => s.Rule.zip s.Next)).flatMap (fun z => z.flatMap rowW) := fun x => by rw [List.flatMap_map]; rfl
  rw [hzz a, hzz b, ← List.append_nil ((a.States.map (fun s => s.Rule.zip s.Next)).flatMap _), ← List.append_nil ((b.States.map (fun s => s.Rule.zip s.Next)).flatMap _)] at h
  have hget : ∀ i (h1 : i < a.States.length) (h2 : i < b.States.length), a.States[i].L = b.States[i].L ∧ a.States[i].R = b.States[i].R := fun i h1 h2 => by
    have := List.getElem_of_eq e4 (i := i) (by simpa using h1)
    simp only [List.getElem_map, Prod.mk.injEq] at this
    exact this
  obtain ⟨e5, _⟩ := (rows_code (opsG a)).all (All2.of_get (by simpa using e3') (fun i h1 h2 => by
    have h1' : i < a.States.length := by simpa using h1
    have h2' : i < b.States.length := by simpa using h2
    have sa := stateS.1 (ha.st _ (List.getElem_mem h1'))
    have sb := stateS.1 (hb.st _ (List.getElem_mem h2'))
    have hr := (hget i h1' h2').2
    have hlen : a.States[i].R.length = b.States[i].R.length := by rw [hr]
    have a1 := sa.rule; have a2 := sa.next; have b1 := sb.rule; have b2 := sb.next
    rw [hlen] at a1 a2
    simp only [List.getElem_map]
    refine All2.of_get (by simp only [List.length_zip]; omega) (fun c c1 c2 => ?_)
    simp only [List.length_zip] at c1 c2
    simp only [List.getElem_zip]
    obtain ⟨p1, p2, p3, p4⟩ := sa.row c (by omega) (by omega)
    obtain ⟨q1, q2, q3, q4⟩ := sb.row c (by omega) (by omega)
    refine ⟨⟨⟨p1, by omega⟩, q1, by omega⟩, All2.all (by omega) (fun x hx y hy => ⟨(ha.goodM (p4 x hx)).1, ?_⟩)⟩
    rw [opsG_congr hR]
    exact (hb.goodM (q4 y hy)).1)) h
  refine ⟨e0, hM, e2, List.ext_getElem e3' (fun i h1 h2 => ?_)⟩
  obtain ⟨g1, g2⟩ := hget i h1 h2
  have g3 := List.getElem_of_eq e5 (i := i) (by simpa using h1)
  simp only [List.getElem_map] at g3
  have sa := stateS.1 (ha.st _ (List.getElem_mem h1))
  have sb := stateS.1 (hb.st _ (List.getElem_mem h2))
  have a1 := sa.rule; have a2 := sa.next; have b1 := sb.rule; have b2 := sb.next
  have g4 := congrArg (List.map Prod.fst) g3
  have g5 := congrArg (List.map Prod.snd) g3
  rw [List.map_fst_zip (by omega), List.map_fst_zip (by omega)] at g4
  rw [List.map_snd_zip (by omega), List.map_snd_zip (by omega)] at g5
  generalize a.States[i] = s at *
  generalize b.States[i] = t at *
  obtain ⟨l, r, u, n⟩ := s
  obtain ⟨l', r', u', n'⟩ := t
  simp only at g1 g2 g4 g5
  subst g1; subst g2; subst g4; subst g5
  rfl
theorem enc_same {a b : api_Auto} (h : sameS a b) : encS a = encS b := by
  obtain ⟨h1, _, h2, h3⟩ := h
  simp only [encS, h1, h2, h3]
theorem RightS.cmpOk {a : api_Auto} (h : RightS a) (ho : Okay a) {K : Nat} (hK : bigOf a K) {s : api_State} (hs : s ∈ a.States) : Go.Rv.cmpOk K s := by
  have h' := stateS.1 (h.st s hs)
  have h27 := codesS_le s.R.length
  have h1 := h'.rule
  have hk := hK.1
  refine ⟨ho.stOk hK hs, ⟨by omega, by omega⟩, fun r hr m hm => ?_⟩
  have h2 := h'.next
  obtain ⟨c, hc, rfl⟩ := List.getElem_of_mem hr
  exact (h.goodM ((h'.row c hc (by omega)).2.2.2 m hm)).2
theorem enc_bytes {a : api_Auto} (h : RightS a) (ho : Okay a) : isBytes (encS a) := by
  have hnum : ∀ v, isBytes (numB v) := fun v => numF_bytes _ _
  have happ : ∀ {l m : List Int}, isBytes l → isBytes m → isBytes (l ++ m) := fun h1 h2 x hx => by
    rcases List.mem_append.1 hx with hx | hx
    · exact h1 x hx
    · exact h2 x hx
  have hflat : ∀ {α : Type} {w : α → List Int} {l : List α}, (∀ x ∈ l, isBytes (w x)) → isBytes (l.flatMap w) := fun hw x hx => by
    obtain ⟨y, hy, hx⟩ := List.mem_flatMap.1 hx
    exact hw y hy x hx
  have hlist : ∀ l, isBytes (listW l) := fun l => happ (hnum _) (hflat fun x _ => hnum x)
  refine happ (fun x hx => ?_) (happ (fun x hx => ?_) (happ (hnum _) (happ (hflat fun c _ => happ (hnum _) (hnum _)) (happ (hnum _) (happ (hflat fun s _ => happ (hlist _) (hlist _)) (hflat fun s hs => hflat fun p hp => happ (hnum _) (hflat fun m hm => happ (hnum _) ?_)))))))
  · simp only [magic, List.mem_cons, List.not_mem_nil, or_false] at hx; omega
  · simp only [ArrN.list, List.mem_map, List.mem_range] at hx
    obtain ⟨i, hi, rfl⟩ := hx
    exact ho.split i hi
  · have h' := stateS.1 (h.st s hs)
    obtain ⟨c, hc, rfl⟩ := List.getElem_of_mem hp
    rw [List.length_zip] at hc
    rw [List.getElem_zip] at hm
    exact (h.goodM ((h'.row c (by omega) (by omega)).2.2.2 m hm)).2
theorem Same_plain (a b : api_Auto) (ha : Okay a) (hb : Okay b) : ∃ K, raddlelaw14_TableSame K a b = some true := by
  have hka := big_need (fewS a) (K := max (needK (fewS a)) (needK (fewS b))) (by omega)
  have hkb := big_need (fewS b) (K := max (needK (fewS a)) (needK (fewS b))) (by omega)
  refine ⟨max (needK (fewS a)) (needK (fewS b)), ?_⟩
  generalize max (needK (fewS a)) (needK (fewS b)) = K at *
  have oa := few_okay ha
  have ob := few_okay hb
  have h1 := (encode_both K _ oa hka).1
  have h2 := (encode_both K _ ob hkb).1
  rw [raddlelaw14_TableSame, shown_at hka.1, Option.bind_some, few_eq, Option.bind_some, few_eq, Option.bind_some, h1, Option.bind_some, h2, Option.bind_some]
  by_cases ra : rightP (fewS a) = true
  · by_cases rb : rightP (fewS b) = true
    · rw [if_pos ra, if_pos rb]
      have sa := rightS.1 ra
      have sb := rightS.1 rb
      have hs := same_iff K (fewS a) (fewS b) ⟨hka.2.1, oa.counts⟩ ⟨hka.2.2.1, oa.states⟩ (fun s hs => sa.cmpOk oa hka hs) (fun s hs => sb.cmpOk ob hkb hs)
      simp only [bne_self_eq_false, cond_false, cond_true, hs, Option.bind_some, ofBytes_beq (enc_bytes sa oa) (enc_bytes sb ob)]
      congr 1
      rw [beq_iff_eq]
      refine bool_of ?_
      rw [beq_iff_eq]
      exact ⟨enc_inj sa sb, enc_same⟩
    · rw [if_pos ra, if_neg rb]
      rfl
  · rw [if_neg ra]
    rfl
end Go.Rv

/- What is written: the reference's writer; how long; fuel enough. -/
import Derived.Test.YtaipjabggdifoaaRpT4
namespace Go.Rv
theorem refEnc_l5 (K : Nat) (hK : 300 ≤ K) (go : Int → Int → api_Auto → List Int → List Int → List Int → List Int → List (List api_Move) → Option (List Int × Int)) (a : api_Auto) (A : Int) (j : Nat) (C : List (List api_Move)) (hj : j < C.length) (hr : mvOk K C[j]) (b : List Int) (p q u : List Int) (hl : b.length + (C[j].flatMap moveW).length ≤ LIM) :
    raddleref14_Encode_l5 K go K A (j : Int) (0 : Int) a b p q u C = go A (IntKind.i64.wrap ((j : Int) + 1)) a (b ++ C[j].flatMap moveW) p q u C := by
  have := accLoop moveW C[j] (fun k i b => raddleref14_Encode_l5 K go k A (j : Int) (i : Int) a b p q u C) (fun b => go A (IntKind.i64.wrap ((j : Int) + 1)) a b p q u C)
    (fun k i h b hb => by
      show raddleref14_Encode_l5 K go (k + 1) A (j : Int) (i : Int) a b p q u C = raddleref14_Encode_l5 K go k A (j : Int) ((i + 1 : Nat) : Int) a _ p q u C
      rw [moveW, List.length_append] at hb
      rw [raddleref14_Encode_l5]
      simp only [geti_nat hj, dl_true h, cond_true, geti_nat h, Option.bind_some, refNum K (by omega) b _ (fits_wrap _) (show b.length + (numB (IntKind.i64.wrap (C[j][i].To + 1))).length ≤ LIM by omega), w64s (n := i) (by have := hr.2.1; omega),
        ck_pos (rm (show (b ++ numB (IntKind.i64.wrap (C[j][i].To + 1))).length + C[j][i].Ops.length ≤ LIM by rw [List.length_append]; omega)), moveW, List.append_assoc])
    (fun k b => by
      show raddleref14_Encode_l5 K go (k + 1) A (j : Int) (C[j].length : Int) a b p q u C = _
      rw [raddleref14_Encode_l5]
      simp only [geti_nat hj, Option.bind_some, dl_false (Nat.le_refl _), cond_false])
    C[j].length K 0 b (by omega) (by omega) hr.1 (by simpa using hl)
  simpa using this
theorem refEnc_l4 (K : Nat) (hK : 300 ≤ K) (go : Int → api_Auto → List Int → Option (List Int × Int)) (a : api_Auto) (A : Int) (s : api_State) (hs : stOk K s) (hrn : s.Rule.length = s.Next.length) (b : List Int) (p q : List Int) (hl : b.length + (st2W s).length ≤ LIM) :
    raddleref14_Encode_l4 K go K A (0 : Int) a b p q s.Rule s.Next = go (IntKind.i64.wrap (A + 1)) a (b ++ st2W s) := by
  have hz : (s.Rule.zip s.Next).length = s.Next.length := by simp [hrn]
  have := accLoop rowW (s.Rule.zip s.Next) (fun k i b => raddleref14_Encode_l4 K go k A (i : Int) a b p q s.Rule s.Next) (fun b => go (IntKind.i64.wrap (A + 1)) a b)
    (fun k i h b hb => by
      show raddleref14_Encode_l4 K go (k + 1) A (i : Int) a b p q s.Rule s.Next = raddleref14_Encode_l4 K go k A ((i + 1 : Nat) : Int) a _ p q s.Rule s.Next
      have h1 : i < s.Next.length := by omega
      have h2 : i < s.Rule.length := by omega
      have hg : (s.Rule.zip s.Next)[i] = (s.Rule[i], s.Next[i]) := List.getElem_zip ..
      rw [hg, rowW, List.length_append] at hb
      rw [raddleref14_Encode_l4, hg]
      simp only at hb
      simp only [dl_true h2, cond_true, geti_nat h2, Option.bind_some, refNum K (by omega) b _ (fits_wrap _) (show b.length + (numB (IntKind.i64.wrap (s.Rule[i] + 1))).length ≤ LIM by omega)]
      rw [refEnc_l5 K hK _ a A i s.Next h1 (hs.2.2.2.2 _ (List.getElem_mem h1)) _ p q s.Rule (by rw [List.length_append]; omega), w64s (n := i) (by have := hs.2.2.2.1.2; omega), rowW, List.append_assoc])
    (fun k b => by
      show raddleref14_Encode_l4 K go (k + 1) A (((s.Rule.zip s.Next).length : Nat) : Int) a b p q s.Rule s.Next = _
      rw [raddleref14_Encode_l4, hz, ← hrn]
      simp only [dl_false (Nat.le_refl _), cond_false])
    s.Next.length K 0 b (by omega) (by omega) hs.2.2.2.1.1 (by simpa [st2W] using hl)
  simpa [st2W] using this
theorem refEnc_l3 (K : Nat) (a : api_Auto) (h : EncOk K a) (b : List Int) (hl : b.length + (a.States.flatMap st2W).length ≤ LIM) :
    raddleref14_Encode_l3 K K (0 : Int) a b = some (b ++ a.States.flatMap st2W, 0) := by
  have := accLoop st2W a.States (fun k i b => raddleref14_Encode_l3 K k (i : Int) a b) (fun b => some (b, 0))
    (fun k i hi b hb => by
      show raddleref14_Encode_l3 K (k + 1) (i : Int) a b = raddleref14_Encode_l3 K k ((i + 1 : Nat) : Int) a _
      obtain ⟨h1, _, _, h4⟩ := h.st _ (List.getElem_mem hi)
      rw [raddleref14_Encode_l3]
      simp only [dl_true hi, cond_true, geti_nat hi, Option.bind_some]
      rw [refEnc_l4 K h.k _ a _ _ h1 h4 b _ _ hb, w64s (n := i) (by have := h.sl.2; omega)])
    (fun k b => by
      show raddleref14_Encode_l3 K (k + 1) (a.States.length : Int) a b = _
      rw [raddleref14_Encode_l3]
      simp only [dl_false (Nat.le_refl _), cond_false])
    a.States.length K 0 b (by omega) (by omega) h.sl.1 (by simpa using hl)
  simpa using this
theorem refEnc_l2 (K : Nat) (a : api_Auto) (h : EncOk K a) (b : List Int) (hl : b.length + (a.States.flatMap stW).length + (a.States.flatMap st2W).length ≤ LIM) :
    raddleref14_Encode_l2 K K (0 : Int) a b = some (b ++ (a.States.flatMap stW ++ a.States.flatMap st2W), 0) := by
  have := accLoop stW a.States (fun k i b => raddleref14_Encode_l2 K k (i : Int) a b) (fun b => raddleref14_Encode_l3 K K (0 : Int) a b)
    (fun k i hi b hb => by
      show raddleref14_Encode_l2 K (k + 1) (i : Int) a b = raddleref14_Encode_l2 K k ((i + 1 : Nat) : Int) a _
      obtain ⟨h1, h2, h3, _⟩ := h.st _ (List.getElem_mem hi)
      have hk := h.k
      rw [stW, List.length_append] at hb
      rw [raddleref14_Encode_l2]
      simp only [dl_true hi, cond_true, geti_nat hi, Option.bind_some]
      rw [refList K (by omega) b _ h2 h1.1 (by omega), Option.bind_some, refList K (by omega) _ _ h3 h1.2.1 (by rw [List.length_append]; omega), Option.bind_some, w64s (n := i) (by have := h.sl.2; omega), stW, List.append_assoc])
    (fun k b => by
      show raddleref14_Encode_l2 K (k + 1) (a.States.length : Int) a b = _
      rw [raddleref14_Encode_l2]
      simp only [dl_false (Nat.le_refl _), cond_false])
    a.States.length K 0 b (by omega) (by omega) h.sl.1 (by simp only [List.drop_zero]; omega)
  simp only [List.drop_zero] at this
  rw [refEnc_l3 K a h _ (by rw [List.length_append]; omega), List.append_assoc] at this
  exact this
theorem refEnc_l1 (K : Nat) (a : api_Auto) (h : EncOk K a) (b : List Int) (hl : b.length + (a.Counts.flatMap cntW).length + (numB (a.States.length : Int)).length + (a.States.flatMap stW).length + (a.States.flatMap st2W).length ≤ LIM) :
    raddleref14_Encode_l1 K K (0 : Int) a b = some (b ++ (a.Counts.flatMap cntW ++ (numB (a.States.length : Int) ++ (a.States.flatMap stW ++ a.States.flatMap st2W))), 0) := by
  have hk := h.k
  have := accLoop cntW a.Counts (fun k i b => raddleref14_Encode_l1 K k (i : Int) a b) (fun b => (raddleref14_writer_num K (raddleref14_writer.mk b) (a.States.length : Int)).bind fun v => raddleref14_Encode_l2 K K (0 : Int) a v.b)
    (fun k i hi b hb => by
      show raddleref14_Encode_l1 K (k + 1) (i : Int) a b = raddleref14_Encode_l1 K k ((i + 1 : Nat) : Int) a _
      have h1 := h.cn _ (List.getElem_mem hi)
      rw [cntW, List.length_append] at hb
      rw [raddleref14_Encode_l1]
      simp only [dl_true hi, cond_true, geti_nat hi, Option.bind_some]
      rw [refNum K (by omega) b _ h1.1 (by omega), Option.bind_some, refNum K (by omega) _ _ h1.2 (by rw [List.length_append]; omega), Option.bind_some, w64s (n := i) (by have := h.cl.2; omega), cntW, List.append_assoc])
    (fun k b => by
      show raddleref14_Encode_l1 K (k + 1) (a.Counts.length : Int) a b = _
      rw [raddleref14_Encode_l1]
      simp only [dl_false (Nat.le_refl _), cond_false])
    a.Counts.length K 0 b (by omega) (by omega) h.cl.1 (by simp only [List.drop_zero]; omega)
  simp only [List.drop_zero] at this
  rw [refNum K (by omega) _ _ (fits_len h.sl.2) (by rw [List.length_append]; omega), Option.bind_some, refEnc_l2 K a h _ (by simp only [List.length_append]; omega), List.append_assoc, List.append_assoc] at this
  exact this
theorem refEnc_l0 (K : Nat) (a : api_Auto) (h : EncOk K a) (b : List Int) (hl : b.length + 256 + (numB (a.Counts.length : Int)).length + (a.Counts.flatMap cntW).length + (numB (a.States.length : Int)).length + (a.States.flatMap stW).length + (a.States.flatMap st2W).length ≤ LIM) :
    raddleref14_Encode_l0 K K (0 : Int) a b = some (b ++ (ArrN.list 256 a.Split.Of ++ (numB (a.Counts.length : Int) ++ (a.Counts.flatMap cntW ++ (numB (a.States.length : Int) ++ (a.States.flatMap stW ++ a.States.flatMap st2W))))), 0) := by
  have hk := h.k
  have hfl : ∀ l : List Nat, l.flatMap (fun i => [a.Split.Of.f i]) = l.map a.Split.Of.f := by
    intro l
    induction l with
    | nil => rfl
    | cons x l ih => simp [List.flatMap_cons, ih]
  have := accLoop (fun i => [a.Split.Of.f i]) (List.range 256) (fun k i b => raddleref14_Encode_l0 K k (i : Int) a b) (fun b => (raddleref14_writer_num K (raddleref14_writer.mk b) (a.Counts.length : Int)).bind fun v => raddleref14_Encode_l1 K K (0 : Int) a v.b)
    (fun k i hi b hb => by
      show raddleref14_Encode_l0 K (k + 1) (i : Int) a b = raddleref14_Encode_l0 K k ((i + 1 : Nat) : Int) a _
      have hi' : i < 256 := by simpa using hi
      have e0 : decide ((i : Int) < 256) = true := decide_eq_true (by omega)
      rw [raddleref14_Encode_l0]
      simp only [List.length_singleton] at hb
      simp only [e0, cond_true, ck_pos (show 0 ≤ (i : Int) ∧ (i : Int) < 256 by omega), ArrN.get, Int.toNat_natCast, ck_pos (rm (show b.length + [a.Split.Of.f i].length ≤ LIM by simp only [List.length_singleton]; omega)), w64s (n := i) (by omega), List.getElem_range])
    (fun k b => by
      show raddleref14_Encode_l0 K (k + 1) (((List.range 256).length : Nat) : Int) a b = _
      have e0 : decide ((((List.range 256).length : Nat) : Int) < 256) = false := by rw [List.length_range]; rfl
      rw [raddleref14_Encode_l0]
      simp only [e0, cond_false])
    256 K 0 b (by simp) (by omega) (by omega) (by simp only [List.drop_zero]; rw [hfl, List.length_map, List.length_range]; omega)
  simp only [List.drop_zero] at this
  rw [hfl, show (List.range 256).map a.Split.Of.f = ArrN.list 256 a.Split.Of from rfl, refNum K (by omega) _ _ (fits_len h.cl.2) (by rw [List.length_append, list_len]; omega), Option.bind_some, refEnc_l1 K a h _ (by simp only [List.length_append, list_len]; omega), List.append_assoc, List.append_assoc] at this
  exact this
theorem refEncode (K : Nat) (a : api_Auto) (h : EncOk K a) (hr : raddleref11_Right K a = some true) (hl : (encS a).length ≤ LIM) : raddleref14_Encode K a = some (encS a, 0) := by
  simp only [encS, List.length_append, list_len] at hl
  rw [raddleref14_Encode, hr, Option.bind_some]
  simp only [Bool.not_true, cond_false]
  rw [refEnc_l0 K a h _ (by simp only [magic, List.length_cons, List.length_nil] at hl ⊢; omega)]
  rfl
theorem flatMap_len {α : Type} {w : α → List Int} {c : Nat} : ∀ {l : List α}, (∀ x ∈ l, (w x).length ≤ c) → (l.flatMap w).length ≤ l.length * c := by
  intro l
  induction l with
  | nil => intro _; simp
  | cons x l ih =>
    intro h
    have h0 := h x List.mem_cons_self
    have h1 := ih (fun y hy => h y (List.mem_cons_of_mem _ hy))
    rw [List.flatMap_cons, List.length_append, List.length_cons, Nat.succ_mul]
    omega
theorem risesF_lt {b : Int} : ∀ (l : List Int) (last : Int), risesF b last l = true → ∀ x ∈ l, x < b := by
  intro l
  induction l with
  | nil => intro _ _ x hx; cases hx
  | cons n l ih =>
    intro last h x hx
    simp only [risesF, Bool.and_eq_true, Bool.not_eq_true', decide_eq_false_iff_not] at h
    rcases List.mem_cons.1 hx with rfl | hx
    · omega
    · exact ih n h.2.2 x hx
/-- What an automaton that is Right is made of. -/
structure RightS (a : api_Auto) : Prop where
  split : splitS a.Split = true
  cl : a.Counts.length ≤ 512
  s0 : 1 ≤ a.States.length
  sl : a.States.length ≤ 256
  first : (a.States.getD 0 ⟨[], [], [], []⟩).L = [] ∧ (a.States.getD 0 ⟨[], [], [], []⟩).R = []
  cn : ∀ c ∈ a.Counts, cntP c = true
  st : ∀ s ∈ a.States, stateP a s = true
theorem rightS {a : api_Auto} : rightP a = true ↔ RightS a := by
  have hm : ∀ {α : Type} (l : List α) (d : α) (p : α → Bool), allB (fun i => p (l.getD i d)) l.length 0 = true ↔ ∀ x ∈ l, p x = true := by
    intro α l d p
    rw [allB_iff]
    constructor
    · intro h x hx
      obtain ⟨i, hi, rfl⟩ := List.getElem_of_mem hx
      have := h i (by omega) (by omega)
      rwa [getD_lt hi] at this
    · intro h j h0 h1
      have hj : j < l.length := by omega
      simp only [getD_lt hj]
      exact h _ (List.getElem_mem hj)
  simp only [rightP, Bool.and_eq_true, Bool.not_eq_true', decide_eq_false_iff_not, hm, beq_iff_eq]
  constructor
  · rintro ⟨h0, h1, h2, h3, ⟨h4, h5⟩, h6, h7⟩
    exact ⟨h0, by omega, by omega, by omega, ⟨List.length_eq_zero_iff.1 h4, List.length_eq_zero_iff.1 h5⟩, h6, h7⟩
  · rintro ⟨h0, h1, h2, h3, ⟨h4, h5⟩, h6, h7⟩
    exact ⟨h0, by omega, by omega, by omega, ⟨by rw [h4]; rfl, by rw [h5]; rfl⟩, h6, h7⟩
/-- What a state of such an automaton is made of. -/
structure StateS (a : api_Auto) (s : api_State) : Prop where
  code : codesS s.R.length ≠ 0
  rule : (s.Rule.length : Int) = codesS s.R.length
  next : (s.Next.length : Int) = codesS s.R.length
  l : risesS s.L 512 = true
  r : risesS s.R a.Counts.length = true
  row : ∀ (c : Nat) (h : c < s.Next.length) (h' : c < s.Rule.length), -1 ≤ s.Rule[c] ∧ s.Rule[c] < 512 ∧ (s.Next[c].length : Int) = a.Split.Many ∧ ∀ m ∈ s.Next[c], moveP a s m = true
theorem stateS {a : api_Auto} {s : api_State} : stateP a s = true ↔ StateS a s := by
  simp only [stateP, Bool.and_eq_true, Bool.not_eq_true', beq_iff_eq, beq_eq_false_iff_ne, allB_iff]
  constructor
  · rintro ⟨h0, h1, h2, h3, h4, h5⟩
    refine ⟨h0, h1, h2, h3, h4, fun c h h' => ?_⟩
    have := h5 c (by omega) (by omega)
    simp only [rowP, getD_lt h, getD_lt h', Bool.and_eq_true, decide_eq_true_eq, beq_iff_eq, allB_iff] at this
    refine ⟨this.1, this.2.1, this.2.2.1, fun m hm => ?_⟩
    obtain ⟨i, hi, rfl⟩ := List.getElem_of_mem hm
    have := this.2.2.2 i (by omega) (by omega)
    rwa [getD_lt hi] at this
  · rintro ⟨h0, h1, h2, h3, h4, h5⟩
    refine ⟨h0, h1, h2, h3, h4, fun c _ h => ?_⟩
    have hc : c < s.Next.length := by omega
    have hc' : c < s.Rule.length := by omega
    obtain ⟨g0, g1, g2, g3⟩ := h5 c hc hc'
    simp only [rowP, getD_lt hc, getD_lt hc', Bool.and_eq_true, decide_eq_true_eq, beq_iff_eq, allB_iff]
    refine ⟨g0, g1, g2, fun j _ hj => ?_⟩
    have hj' : j < s.Next[c].length := by omega
    rw [getD_lt hj']
    exact g3 _ (List.getElem_mem hj')
theorem codesS_le (n : Int) : codesS n ≤ 27 := by
  simp only [codesS]
  split
  · omega
  · split
    · omega
    · split
      · omega
      · split <;> omega
theorem StateS.rl {a : api_Auto} {s : api_State} (h : StateS a s) : s.R.length ≤ 3 := by
  have := h.code
  refine Classical.byContradiction fun hn => this ?_
  simp only [codesS]
  rw [if_neg (by omega), if_neg (by omega), if_neg (by omega), if_neg (by omega)]
theorem StateS.ll {a : api_Auto} {s : api_State} (h : StateS a s) : s.L.length ≤ 512 := by
  rcases risesF_len s.L (-1) (by omega) h.l with g | g
  · omega
  · simp [g]
theorem RightS.many {a : api_Auto} (h : RightS a) : a.Split.Many ≤ 256 := by
  have := splitF_many a.Split.Of 256 0 0 a.Split.Many h.split
  omega
theorem RightS.stR {a : api_Auto} (h : RightS a) (m : api_Move) : (stR a m).length ≤ 3 := by
  simp only [Go.Rv.stR]
  cases hg : a.States[m.To.toNat]? with
  | none => simp
  | some s =>
    have := (stateS.1 (h.st s (List.mem_of_getElem? hg))).rl
    simpa using this
theorem RightS.ops {a : api_Auto} (h : RightS a) {s : api_State} {m : api_Move} (hm : moveP a s m = true) : m.Ops.length ≤ 3 := by
  simp only [moveP] at hm
  split at hm
  · have := beq_iff_eq.1 hm; omega
  · simp only [Bool.and_eq_true, beq_iff_eq] at hm
    have := h.stR m
    omega
theorem RightS.encOk {a : api_Auto} (h : RightS a) (ho : Okay a) {K : Nat} (hK : bigOf a K) : EncOk K a where
  k := hK.1
  cl := ⟨hK.2.1, ho.counts⟩
  sl := ⟨hK.2.2.1, ho.states⟩
  cn := fun c hc => by
    have := h.cn c hc
    simp only [cntP, Bool.and_eq_true, Bool.not_eq_true', decide_eq_false_iff_not] at this
    simp only [fits]
    omega
  st := fun s hs => by
    have h' := stateS.1 (h.st s hs)
    refine ⟨ho.stOk hK hs, fun x hx => ?_, fun x hx => ?_, ?_⟩
    · have := risesF_lt _ _ h'.l x hx; simp only [fits]; omega
    · have := risesF_lt _ _ h'.r x hx; have := h.cl; simp only [fits]; omega
    · have := h'.rule; have := h'.next; omega
theorem RightS.len {a : api_Auto} (h : RightS a) : (encS a).length ≤ LIM := by
  have hc : (a.Counts.flatMap cntW).length ≤ a.Counts.length * 18 := flatMap_len fun c _ => by
    have := numB_len c.a0; have := numB_len c.a1
    simp only [cntW, List.length_append]; omega
  have hlist : ∀ l : List Int, l.length ≤ 512 → (listW l).length ≤ 4617 := fun l hl => by
    have h1 := numB_len (l.length : Int)
    have h2 : (l.flatMap numB).length ≤ l.length * 9 := flatMap_len fun x _ => numB_len x
    simp only [listW, List.length_append]; omega
  have hs : (a.States.flatMap stW).length ≤ a.States.length * 9234 := flatMap_len fun s hs => by
    have h' := stateS.1 (h.st s hs)
    have := hlist s.L h'.ll; have := hlist s.R (by have := h'.rl; omega)
    simp only [stW, List.length_append]; omega
  have hs2 : (a.States.flatMap st2W).length ≤ a.States.length * (27 * 3081) := flatMap_len fun s hs => by
    have h' := stateS.1 (h.st s hs)
    have hm := h.many
    have hcl := codesS_le s.R.length
    have hn := h'.next
    have hr := h'.rule
    have h1 : ((s.Rule.zip s.Next).flatMap rowW).length ≤ (s.Rule.zip s.Next).length * 3081 := flatMap_len fun p hp => by
      obtain ⟨i, hi, rfl⟩ := List.getElem_of_mem hp
      rw [List.length_zip] at hi
      have hg : (s.Rule.zip s.Next)[i] = (s.Rule[i], s.Next[i]) := List.getElem_zip ..
      obtain ⟨_, _, g2, g3⟩ := h'.row i (by omega) (by omega)
      have h1 := numB_len (IntKind.i64.wrap (s.Rule[i] + 1))
      have h2 : (s.Next[i].flatMap moveW).length ≤ s.Next[i].length * 12 := flatMap_len fun m hm => by
        have := numB_len (IntKind.i64.wrap (m.To + 1))
        have := h.ops (g3 m hm)
        simp only [moveW, List.length_append]; omega
      rw [hg]
      simp only [rowW, List.length_append]; omega
    rw [List.length_zip] at h1
    have h2 : min s.Rule.length s.Next.length ≤ 27 := by omega
    exact Nat.le_trans h1 (Nat.mul_le_mul_right 3081 h2)
  have h1 := numB_len (a.Counts.length : Int)
  have h2 := numB_len (a.States.length : Int)
  have h3 := h.cl
  have h4 := h.sl
  simp only [encS, magic, List.length_append, list_len, List.length_cons, List.length_nil, LIM]
  omega
def supL {α : Type} (f : α → Nat) (l : List α) : Nat := l.foldr (fun x n => max (f x) n) 0
theorem le_supL {α : Type} (f : α → Nat) : ∀ {l : List α} {x : α}, x ∈ l → f x ≤ supL f l := by
  intro l
  induction l with
  | nil => intro x h; cases h
  | cons y l ih =>
    intro x h
    simp only [supL, List.foldr_cons]
    rcases List.mem_cons.1 h with rfl | h
    · omega
    · have := ih h; simp only [supL] at this; omega
def needK (a : api_Auto) : Nat :=
  301 + a.Counts.length + a.States.length + supL (fun s => s.L.length + s.R.length + s.Next.length + supL (fun r : List api_Move => r.length + supL (fun m : api_Move => m.Ops.length) r) s.Next) a.States
theorem big_need (a : api_Auto) {K : Nat} (h : needK a ≤ K) : bigOf a K := by
  simp only [needK] at h
  refine ⟨by omega, by omega, by omega, fun s hs => ?_⟩
  have h1 := le_supL (fun s : api_State => s.L.length + s.R.length + s.Next.length + supL (fun r : List api_Move => r.length + supL (fun m : api_Move => m.Ops.length) r) s.Next) hs
  refine ⟨by omega, by omega, by omega, fun r hr => ?_⟩
  have h2 := le_supL (fun r : List api_Move => r.length + supL (fun m : api_Move => m.Ops.length) r) hr
  refine ⟨by omega, fun m hm => ?_⟩
  have h3 := le_supL (fun m : api_Move => m.Ops.length) hm
  omega
/-- Both layers write the same: an automaton that is Right as its bytes, any other not at all. -/
theorem encode_both (K : Nat) (a : api_Auto) (ho : Okay a) (hK : bigOf a K) : table_Encode K a = some (if rightP a = true then (encS a, 0) else ([], 1)) ∧ raddleref14_Encode K a = some (if rightP a = true then (encS a, 0) else ([], 1)) := by
  have h1 := autoRight K a ho hK
  have h2 := refRight K a ho hK
  by_cases hr : rightP a = true
  · have hs := rightS.1 hr
    rw [hr] at h1 h2
    rw [if_pos hr]
    exact ⟨autoEncode K a (hs.encOk ho hK) h1 hs.len, refEncode K a (hs.encOk ho hK) h2 hs.len⟩
  · have hf : rightP a = false := by simpa using hr
    rw [hf] at h1 h2
    rw [if_neg hr, table_Encode, raddleref14_Encode, h1, h2]
    exact ⟨rfl, rfl⟩
end Go.Rv

/- What is written: numbers, and the bytes of an automaton; both layers write the same. -/
import Derived.Test.YtaipjabggdifoaaRpT3
namespace Go.Rv
theorem or128 (n : Nat) (h : n < 256) : bits .or .u8 (n : Int) 128 = ((n % 128 + 128 : Nat) : Int) := by
  have : (List.range 256).all (fun m => bits .or .u8 (m : Int) 128 == ((m % 128 + 128 : Nat) : Int)) = true := by kernel_rfl
  exact beq_iff_eq.1 (List.all_eq_true.1 this n (List.mem_range.2 h))
def numF : Nat → Nat → List Int
  | 0, _ => []
  | k + 1, n => if n < 128 then [(n : Int)] else ((n % 128 + 128 : Nat) : Int) :: numF k (n / 128)
def numB (v : Int) : List Int := numF 9 v.toNat
theorem numF_len : ∀ (k n : Nat), (numF k n).length ≤ k := by
  intro k
  induction k with
  | zero => intro n; simp [numF]
  | succ k ih =>
    intro n
    simp only [numF]
    split
    · simp
    · simp only [List.length_cons]; have := ih (n / 128); omega
theorem numB_len (v : Int) : (numB v).length ≤ 9 := numF_len _ _
abbrev LIM : Nat := 1099511627776
theorem rm {n : Nat} (h : n ≤ LIM) : roomy 1 n = true := roomy_iff.2 (by simp only [maxLen, LIM] at *; omega)
theorem autoNumber_l0 (K : Nat) : ∀ (d k n : Nat) (y : List Int), n < 128 ^ (d + 1) → d < k → y.length + (numF (d + 1) n).length ≤ LIM → table_Number_l0 K k (n : Int) y = some (y ++ numF (d + 1) n) := by
  intro d
  induction d with
  | zero =>
    intro k n y hn hk hl
    obtain ⟨k, rfl⟩ : ∃ k', k = k' + 1 := ⟨k - 1, by omega⟩
    have hn' : n < 128 := by simpa using hn
    have e0 : decide ((n : Int) ≥ 128) = false := decide_eq_false (by omega)
    have e1 : IntKind.u8.wrap (n : Int) = n := by rw [IntKind.wrap_u8]; omega
    have e2 : numF (0 + 1) n = [(n : Int)] := by simp only [numF, if_pos hn']
    rw [e2] at hl ⊢
    simp only [table_Number_l0, e0, cond_false, e1, ck_pos (rm hl)]
  | succ d ih =>
    intro k n y hn hk hl
    obtain ⟨k, rfl⟩ : ∃ k', k = k' + 1 := ⟨k - 1, by omega⟩
    by_cases hn' : n < 128
    · have e0 : decide ((n : Int) ≥ 128) = false := decide_eq_false (by omega)
      have e1 : IntKind.u8.wrap (n : Int) = n := by rw [IntKind.wrap_u8]; omega
      have e2 : numF (d + 1 + 1) n = [(n : Int)] := by rw [numF, if_pos hn']
      rw [e2] at hl ⊢
      simp only [table_Number_l0, e0, cond_false, e1, ck_pos (rm hl)]
    · have e0 : decide ((n : Int) ≥ 128) = true := decide_eq_true (by omega)
      have e1 : bits .or .u8 (IntKind.u8.wrap (n : Int)) 128 = ((n % 128 + 128 : Nat) : Int) := by
        have : IntKind.u8.wrap (n : Int) = ((n % 256 : Nat) : Int) := by rw [IntKind.wrap_u8]; omega
        rw [this, or128 _ (by omega)]
        omega
      have e2 : numF (d + 1 + 1) n = ((n % 128 + 128 : Nat) : Int) :: numF (d + 1) (n / 128) := by rw [numF, if_neg hn']
      have e3 : Int.fdiv (n : Int) (2 ^ min (Int.toNat (7 : Int)) IntKind.i64.bits) = ((n / 128 : Nat) : Int) := by
        have : (2 : Int) ^ min (Int.toNat (7 : Int)) IntKind.i64.bits = 128 := by decide
        rw [this, Int.fdiv_eq_ediv_of_nonneg _ (by omega)]
        omega
      rw [e2] at hl ⊢
      simp only [List.length_cons] at hl
      simp only [table_Number_l0, e0, cond_true, e1, e3, ck_pos (rm (show y.length + [((n % 128 + 128 : Nat) : Int)].length ≤ LIM by simp only [List.length_singleton]; omega))]
      rw [ih k (n / 128) _ (by rw [Nat.pow_succ] at hn; omega) (by omega) (by simp only [List.length_append, List.length_singleton]; omega)]
      simp
theorem refNumber_l0 (K : Nat) : ∀ (d k n : Nat) (y : List Int), n < 128 ^ (d + 1) → n < 9223372036854775808 → d < k → y.length + (numF (d + 1) n).length ≤ LIM → raddleref14_Number_l0 K k (n : Int) y = some (y ++ numF (d + 1) n) := by
  intro d
  induction d with
  | zero =>
    intro k n y hn hb hk hl
    obtain ⟨k, rfl⟩ : ∃ k', k = k' + 1 := ⟨k - 1, by omega⟩
    have hn' : n < 128 := by simpa using hn
    have e0 : decide ((n : Int) > 127) = false := decide_eq_false (by omega)
    have e1 : IntKind.u8.wrap (n : Int) = n := by rw [IntKind.wrap_u8]; omega
    have e2 : numF (0 + 1) n = [(n : Int)] := by simp only [numF, if_pos hn']
    rw [e2] at hl ⊢
    simp only [raddleref14_Number_l0, e0, cond_false, e1, ck_pos (rm hl)]
  | succ d ih =>
    intro k n y hn hb hk hl
    obtain ⟨k, rfl⟩ : ∃ k', k = k' + 1 := ⟨k - 1, by omega⟩
    by_cases hn' : n < 128
    · have e0 : decide ((n : Int) > 127) = false := decide_eq_false (by omega)
      have e1 : IntKind.u8.wrap (n : Int) = n := by rw [IntKind.wrap_u8]; omega
      have e2 : numF (d + 1 + 1) n = [(n : Int)] := by rw [numF, if_pos hn']
      rw [e2] at hl ⊢
      simp only [raddleref14_Number_l0, e0, cond_false, e1, ck_pos (rm hl)]
    · have e0 : decide ((n : Int) > 127) = true := decide_eq_true (by omega)
      have e1 : IntKind.u8.wrap ((IntKind.u8.wrap (Int.tmod (n : Int) (128 : Int))) + 128) = ((n % 128 + 128 : Nat) : Int) := by
        rw [Int.tmod_eq_emod_of_nonneg (by omega), IntKind.wrap_u8, IntKind.wrap_u8]
        omega
      have e2 : numF (d + 1 + 1) n = ((n % 128 + 128 : Nat) : Int) :: numF (d + 1) (n / 128) := by rw [numF, if_neg hn']
      have e3 : IntKind.i64.wrap (Int.tdiv (n : Int) (128 : Int)) = ((n / 128 : Nat) : Int) := by
        rw [Int.tdiv_eq_ediv_of_nonneg (by omega), w64 (by omega) (by omega)]
        omega
      rw [e2] at hl ⊢
      simp only [List.length_cons] at hl
      simp only [raddleref14_Number_l0, e0, cond_true, e1, e3, ck_pos (rm (show y.length + [((n % 128 + 128 : Nat) : Int)].length ≤ LIM by simp only [List.length_singleton]; omega))]
      rw [ih k (n / 128) _ (by rw [Nat.pow_succ] at hn; omega) (by omega) (by omega) (by simp only [List.length_append, List.length_singleton]; omega)]
      simp
theorem clamp (v : Int) : (if (0 : Int) > v then (0 : Int) else v) = (v.toNat : Int) := by split <;> omega
theorem autoNumber (K : Nat) (hK : 10 ≤ K) (b : List Int) (v : Int) (hv : v < 9223372036854775808) (hl : b.length + (numB v).length ≤ LIM) : table_Number K b v = some (b ++ numB v) := by
  rw [table_Number, slices_Clone_byte, ck_pos (rm (by simp only [List.length_nil]; omega)), Option.bind_some, clamp, List.nil_append]
  exact autoNumber_l0 K 8 K v.toNat b (by omega) (by omega) hl
theorem refNumber (K : Nat) (hK : 10 ≤ K) (b : List Int) (v : Int) (hv : v < 9223372036854775808) (hl : b.length + (numB v).length ≤ LIM) : raddleref14_Number K b v = some (b ++ numB v) := by
  rw [raddleref14_Number, ck_pos (rm (by simp only [List.length_nil]; omega)), clamp, List.nil_append]
  exact refNumber_l0 K 8 K v.toNat b (by omega) (by omega) (by omega) hl
theorem accLoop {α β : Type} (w : α → List Int) (xs : List α) (F : Nat → Nat → List Int → Option β) (fin : List Int → Option β)
    (hs : ∀ k i (h : i < xs.length) b, b.length + (w xs[i]).length ≤ LIM → F (k + 1) i b = F k (i + 1) (b ++ w xs[i])) (he : ∀ k b, F (k + 1) xs.length b = fin b) :
    ∀ (m k i : Nat) (b : List Int), xs.length - i = m → i ≤ xs.length → m < k → b.length + ((xs.drop i).flatMap w).length ≤ LIM → F k i b = fin (b ++ (xs.drop i).flatMap w) := by
  intro m
  induction m with
  | zero =>
    intro k i b hm hi hk hl
    obtain ⟨k, rfl⟩ : ∃ k', k = k' + 1 := ⟨k - 1, by omega⟩
    have : i = xs.length := by omega
    subst this
    rw [he]
    simp
  | succ m ih =>
    intro k i b hm hi hk hl
    obtain ⟨k, rfl⟩ : ∃ k', k = k' + 1 := ⟨k - 1, by omega⟩
    have hlt : i < xs.length := by omega
    rw [List.drop_eq_getElem_cons hlt, List.flatMap_cons] at hl ⊢
    rw [List.length_append] at hl
    rw [hs k i hlt b (by omega), ih k (i + 1) _ (by omega) (by omega) (by omega) (by rw [List.length_append]; omega), List.append_assoc]
def fits (v : Int) : Prop := v < 9223372036854775808
theorem fits_wrap (v : Int) : fits (IntKind.i64.wrap v) := by simp only [fits, IntKind.wrap_i64]; omega
theorem fits_len {n : Nat} (h : n ≤ 9223372036854775807) : fits (n : Int) := by simp only [fits]; omega
theorem autoNums (K : Nat) (hK : 10 ≤ K) (w : table_writer) (xs : List Int) (hx : ∀ x ∈ xs, fits x) (hn : xs.length < K ∧ xs.length ≤ 9223372036854775807) (hl : w.b.length + (xs.flatMap numB).length ≤ LIM) : table_writer_num K w xs = some ⟨w.b ++ xs.flatMap numB⟩ := by
  have := accLoop numB xs (fun k i b => table_writer_num_l0 K k xs (xs.length : Int) (i : Int) b) (fun b => some ⟨b⟩)
    (fun k i h b hb => by
      show table_writer_num_l0 K (k + 1) xs (xs.length : Int) (i : Int) b = table_writer_num_l0 K k xs (xs.length : Int) ((i + 1 : Nat) : Int) _
      rw [table_writer_num_l0]
      simp only [dl_true h, cond_true, geti_nat h, Option.bind_some, autoNumber K hK b xs[i] (hx _ (List.getElem_mem h)) hb, w64s (n := i) (by omega)])
    (fun k b => by
      show table_writer_num_l0 K (k + 1) xs (xs.length : Int) (xs.length : Int) b = _
      rw [table_writer_num_l0]
      simp only [dl_false (Nat.le_refl _), cond_false])
    xs.length K 0 w.b (by omega) (by omega) hn.1 (by simpa using hl)
  rw [table_writer_num]
  simpa using this
theorem autoNum1 (K : Nat) (hK : 10 ≤ K) (b : List Int) (v : Int) (hv : fits v) (hl : b.length + (numB v).length ≤ LIM) : table_writer_num K ⟨b⟩ [v] = some ⟨b ++ numB v⟩ := by
  have := autoNums K hK ⟨b⟩ [v] (fun x hx => by rw [List.mem_singleton] at hx; subst hx; exact hv) ⟨by simp; omega, by simp⟩ (by simpa using hl)
  simpa using this
theorem refNum (K : Nat) (hK : 10 ≤ K) (b : List Int) (v : Int) (hv : fits v) (hl : b.length + (numB v).length ≤ LIM) : raddleref14_writer_num K ⟨b⟩ v = some ⟨b ++ numB v⟩ := by
  rw [raddleref14_writer_num, refNumber K hK [] v hv (by simp only [List.length_nil]; omega), Option.bind_some, List.nil_append, ck_pos (rm hl)]
def listW (l : List Int) : List Int := numB (l.length : Int) ++ l.flatMap numB
theorem autoList (K : Nat) (hK : 10 ≤ K) (b : List Int) (xs : List Int) (hx : ∀ x ∈ xs, fits x) (hn : xs.length < K ∧ xs.length ≤ 9223372036854775807) (hl : b.length + (listW xs).length ≤ LIM) : table_writer_list K ⟨b⟩ xs = some ⟨b ++ listW xs⟩ := by
  rw [listW, List.length_append] at hl
  rw [table_writer_list, autoNum1 K hK b _ (fits_len hn.2) (by omega), Option.bind_some, autoNums K hK _ xs hx hn (by simp only [List.length_append]; omega), Option.bind_some]
  simp [listW]
theorem refList (K : Nat) (hK : 10 ≤ K) (b : List Int) (xs : List Int) (hx : ∀ x ∈ xs, fits x) (hn : xs.length < K ∧ xs.length ≤ 9223372036854775807) (hl : b.length + (listW xs).length ≤ LIM) : raddleref14_writer_list K ⟨b⟩ xs = some ⟨b ++ listW xs⟩ := by
  rw [listW, List.length_append] at hl
  have := accLoop numB xs (fun k i b => raddleref14_writer_list_l0 K k xs (i : Int) b) (fun b => some ⟨b⟩)
    (fun k i h b hb => by
      show raddleref14_writer_list_l0 K (k + 1) xs (i : Int) b = raddleref14_writer_list_l0 K k xs ((i + 1 : Nat) : Int) _
      rw [raddleref14_writer_list_l0]
      simp only [dl_true h, cond_true, geti_nat h, Option.bind_some, refNum K hK b xs[i] (hx _ (List.getElem_mem h)) hb, w64s (n := i) (by omega)])
    (fun k b => by
      show raddleref14_writer_list_l0 K (k + 1) xs (xs.length : Int) b = _
      rw [raddleref14_writer_list_l0]
      simp only [dl_false (Nat.le_refl _), cond_false])
    xs.length K 0 (b ++ numB (xs.length : Int)) (by omega) (by omega) hn.1 (by simp only [List.length_append, List.drop_zero]; omega)
  rw [raddleref14_writer_list, refNum K hK b _ (fits_len hn.2) (by omega), Option.bind_some]
  simpa [listW] using this
def moveW (m : api_Move) : List Int := numB (IntKind.i64.wrap (m.To + 1)) ++ m.Ops
def rowW (p : Int × List api_Move) : List Int := numB (IntKind.i64.wrap (p.1 + 1)) ++ p.2.flatMap moveW
def stW (s : api_State) : List Int := listW s.L ++ listW s.R
def st2W (s : api_State) : List Int := (s.Rule.zip s.Next).flatMap rowW
def cntW (c : Arr2) : List Int := numB c.a0 ++ numB c.a1
def magic : List Int := [114, 100, 100, 108]
def encS (a : api_Auto) : List Int := magic ++ (ArrN.list 256 a.Split.Of ++ (numB (a.Counts.length : Int) ++ (a.Counts.flatMap cntW ++ (numB (a.States.length : Int) ++ (a.States.flatMap stW ++ a.States.flatMap st2W)))))
/-- Numbers that fit, and fuel enough for all lists. -/
structure EncOk (K : Nat) (a : api_Auto) : Prop where
  k : 300 ≤ K
  cl : a.Counts.length < K ∧ a.Counts.length ≤ 9223372036854775807
  sl : a.States.length < K ∧ a.States.length ≤ 9223372036854775807
  cn : ∀ c ∈ a.Counts, fits c.a0 ∧ fits c.a1
  st : ∀ s ∈ a.States, stOk K s ∧ (∀ x ∈ s.L, fits x) ∧ (∀ x ∈ s.R, fits x) ∧ s.Rule.length = s.Next.length
theorem autoEnc_l4 (K : Nat) (hK : 300 ≤ K) (go : api_Auto → Int → Int → List (List api_Move) → Int → Int → List Int → List Int → List Int → List Int → List (List api_Move) → Option (List Int × Int)) (a : api_Auto) (A B : Int) (C : List (List api_Move)) (D E : Int) (r : List api_Move) (hr : mvOk K r) (b : List Int) (p q u : List Int) (v : List (List api_Move)) (hl : b.length + (r.flatMap moveW).length ≤ LIM) :
    table_Encode_l4 K go K a A B C D E r (r.length : Int) (0 : Int) b p q u v = go a A B C D (IntKind.i64.wrap (E + 1)) (b ++ r.flatMap moveW) p q u v := by
  have := accLoop moveW r (fun k i b => table_Encode_l4 K go k a A B C D E r (r.length : Int) (i : Int) b p q u v) (fun b => go a A B C D (IntKind.i64.wrap (E + 1)) b p q u v)
    (fun k i h b hb => by
      show table_Encode_l4 K go (k + 1) a A B C D E r (r.length : Int) (i : Int) b p q u v = table_Encode_l4 K go k a A B C D E r (r.length : Int) ((i + 1 : Nat) : Int) _ p q u v
      rw [moveW, List.length_append] at hb
      rw [table_Encode_l4]
      simp only [dl_true h, cond_true, geti_nat h, Option.bind_some, autoNum1 K (by omega) b _ (fits_wrap _) (show b.length + (numB (IntKind.i64.wrap (r[i].To + 1))).length ≤ LIM by omega), w64s (n := i) (by have := hr.2.1; omega),
        ck_pos (rm (show (b ++ numB (IntKind.i64.wrap (r[i].To + 1))).length + r[i].Ops.length ≤ LIM by rw [List.length_append]; omega)), moveW, List.append_assoc])
    (fun k b => by
      show table_Encode_l4 K go (k + 1) a A B C D E r (r.length : Int) (r.length : Int) b p q u v = _
      rw [table_Encode_l4]
      simp only [dl_false (Nat.le_refl _), cond_false])
    r.length K 0 b (by omega) (by omega) hr.1 (by simpa using hl)
  simpa using this
theorem autoEnc_l3 (K : Nat) (hK : 300 ≤ K) (go : api_Auto → Int → Int → List Int → Option (List Int × Int)) (a : api_Auto) (A B : Int) (s : api_State) (hs : stOk K s) (hrn : s.Rule.length = s.Next.length) (b : List Int) (p q : List Int) (hl : b.length + (st2W s).length ≤ LIM) :
    table_Encode_l3 K go K a A B s.Next (s.Next.length : Int) (0 : Int) b p q s.Rule s.Next = go a A (IntKind.i64.wrap (B + 1)) (b ++ st2W s) := by
  have hz : (s.Rule.zip s.Next).length = s.Next.length := by simp [hrn]
  have := accLoop rowW (s.Rule.zip s.Next) (fun k i b => table_Encode_l3 K go k a A B s.Next (s.Next.length : Int) (i : Int) b p q s.Rule s.Next) (fun b => go a A (IntKind.i64.wrap (B + 1)) b)
    (fun k i h b hb => by
      show table_Encode_l3 K go (k + 1) a A B s.Next (s.Next.length : Int) (i : Int) b p q s.Rule s.Next = table_Encode_l3 K go k a A B s.Next (s.Next.length : Int) ((i + 1 : Nat) : Int) _ p q s.Rule s.Next
      have h1 : i < s.Next.length := by omega
      have h2 : i < s.Rule.length := by omega
      have hg : (s.Rule.zip s.Next)[i] = (s.Rule[i], s.Next[i]) := List.getElem_zip ..
      rw [hg, rowW, List.length_append] at hb
      rw [table_Encode_l3, hg]
      simp only at hb
      simp only [dl_true h1, cond_true, geti_nat h1, geti_nat h2, Option.bind_some, autoNum1 K (by omega) b _ (fits_wrap _) (show b.length + (numB (IntKind.i64.wrap (s.Rule[i] + 1))).length ≤ LIM by omega)]
      rw [autoEnc_l4 K hK _ a A B s.Next _ _ s.Next[i] (hs.2.2.2.2 _ (List.getElem_mem h1)) _ p q s.Rule s.Next (by rw [List.length_append]; omega), w64s (n := i) (by have := hs.2.2.2.1.2; omega), rowW, List.append_assoc])
    (fun k b => by
      show table_Encode_l3 K go (k + 1) a A B s.Next (s.Next.length : Int) (((s.Rule.zip s.Next).length : Nat) : Int) b p q s.Rule s.Next = _
      rw [table_Encode_l3, hz]
      simp only [dl_false (Nat.le_refl _), cond_false])
    s.Next.length K 0 b (by omega) (by omega) hs.2.2.2.1.1 (by simpa [st2W] using hl)
  simpa [st2W] using this
theorem autoEnc_l2 (K : Nat) (a : api_Auto) (h : EncOk K a) (b : List Int) (hl : b.length + (a.States.flatMap st2W).length ≤ LIM) :
    table_Encode_l2 K K a (a.States.length : Int) (0 : Int) b = some (b ++ a.States.flatMap st2W, 0) := by
  have := accLoop st2W a.States (fun k i b => table_Encode_l2 K k a (a.States.length : Int) (i : Int) b) (fun b => some (b, 0))
    (fun k i hi b hb => by
      show table_Encode_l2 K (k + 1) a (a.States.length : Int) (i : Int) b = table_Encode_l2 K k a (a.States.length : Int) ((i + 1 : Nat) : Int) _
      obtain ⟨h1, _, _, h4⟩ := h.st _ (List.getElem_mem hi)
      rw [table_Encode_l2]
      simp only [dl_true hi, cond_true, geti_nat hi, Option.bind_some]
      rw [autoEnc_l3 K h.k _ a _ _ _ h1 h4 b _ _ hb, w64s (n := i) (by have := h.sl.2; omega)])
    (fun k b => by
      show table_Encode_l2 K (k + 1) a (a.States.length : Int) (a.States.length : Int) b = _
      rw [table_Encode_l2]
      simp only [dl_false (Nat.le_refl _), cond_false])
    a.States.length K 0 b (by omega) (by omega) h.sl.1 (by simpa using hl)
  simpa using this
theorem autoEnc_l1 (K : Nat) (a : api_Auto) (h : EncOk K a) (b : List Int) (hl : b.length + (a.States.flatMap stW).length + (a.States.flatMap st2W).length ≤ LIM) :
    table_Encode_l1 K K a (a.States.length : Int) (0 : Int) b = some (b ++ (a.States.flatMap stW ++ a.States.flatMap st2W), 0) := by
  have := accLoop stW a.States (fun k i b => table_Encode_l1 K k a (a.States.length : Int) (i : Int) b) (fun b => table_Encode_l2 K K a (a.States.length : Int) (0 : Int) b)
    (fun k i hi b hb => by
      show table_Encode_l1 K (k + 1) a (a.States.length : Int) (i : Int) b = table_Encode_l1 K k a (a.States.length : Int) ((i + 1 : Nat) : Int) _
      obtain ⟨h1, h2, h3, _⟩ := h.st _ (List.getElem_mem hi)
      have hk := h.k
      rw [stW, List.length_append] at hb
      rw [table_Encode_l1]
      simp only [dl_true hi, cond_true, geti_nat hi, Option.bind_some]
      rw [autoList K (by omega) b _ h2 h1.1 (by omega), Option.bind_some, autoList K (by omega) _ _ h3 h1.2.1 (by rw [List.length_append]; omega), Option.bind_some, w64s (n := i) (by have := h.sl.2; omega), stW, List.append_assoc])
    (fun k b => by
      show table_Encode_l1 K (k + 1) a (a.States.length : Int) (a.States.length : Int) b = _
      rw [table_Encode_l1]
      simp only [dl_false (Nat.le_refl _), cond_false])
    a.States.length K 0 b (by omega) (by omega) h.sl.1 (by simp only [List.drop_zero]; omega)
  simp only [List.drop_zero] at this
  rw [autoEnc_l2 K a h _ (by rw [List.length_append]; omega), List.append_assoc] at this
  exact this
theorem autoEnc_l0 (K : Nat) (a : api_Auto) (h : EncOk K a) (b : List Int) (hl : b.length + (a.Counts.flatMap cntW).length + (numB (a.States.length : Int)).length + (a.States.flatMap stW).length + (a.States.flatMap st2W).length ≤ LIM) :
    table_Encode_l0 K K a (a.Counts.length : Int) (0 : Int) b = some (b ++ (a.Counts.flatMap cntW ++ (numB (a.States.length : Int) ++ (a.States.flatMap stW ++ a.States.flatMap st2W))), 0) := by
  have hk := h.k
  have := accLoop cntW a.Counts (fun k i b => table_Encode_l0 K k a (a.Counts.length : Int) (i : Int) b) (fun b => (table_writer_num K (table_writer.mk b) [(a.States.length : Int)]).bind fun v => table_Encode_l1 K K a (a.States.length : Int) (0 : Int) v.b)
    (fun k i hi b hb => by
      show table_Encode_l0 K (k + 1) a (a.Counts.length : Int) (i : Int) b = table_Encode_l0 K k a (a.Counts.length : Int) ((i + 1 : Nat) : Int) _
      have h1 := h.cn _ (List.getElem_mem hi)
      have e : List.flatMap numB [a.Counts[i].a0, a.Counts[i].a1] = cntW a.Counts[i] := by simp [cntW]
      rw [table_Encode_l0]
      simp only [dl_true hi, cond_true, geti_nat hi, Option.bind_some]
      rw [autoNums K (by omega) ⟨b⟩ _ (fun x hx => by
        simp only [List.mem_cons, List.not_mem_nil, or_false] at hx
        rcases hx with rfl | rfl
        · exact h1.1
        · exact h1.2) ⟨by simp only [List.length_cons, List.length_nil]; omega, by simp⟩ (by rw [e]; exact hb), e, Option.bind_some, w64s (n := i) (by have := h.cl.2; omega)])
    (fun k b => by
      show table_Encode_l0 K (k + 1) a (a.Counts.length : Int) (a.Counts.length : Int) b = _
      rw [table_Encode_l0]
      simp only [dl_false (Nat.le_refl _), cond_false])
    a.Counts.length K 0 b (by omega) (by omega) h.cl.1 (by simp only [List.drop_zero]; omega)
  simp only [List.drop_zero] at this
  rw [autoNum1 K (by omega) _ _ (fits_len h.sl.2) (by rw [List.length_append]; omega), Option.bind_some, autoEnc_l1 K a h _ (by simp only [List.length_append]; omega), List.append_assoc, List.append_assoc] at this
  exact this
theorem list_len (n : Nat) (a : ArrN) : (ArrN.list n a).length = n := by simp [ArrN.list]
theorem autoConcat (K : Nat) (hK : 300 ≤ K) (a : ArrN) : slices_Concat_byte K [[(114 : Int), (100 : Int), (100 : Int), (108 : Int)], ArrN.list 256 a] = some (magic ++ ArrN.list 256 a) := by
  obtain ⟨k, rfl⟩ : ∃ k', K = k' + 3 := ⟨K - 3, by omega⟩
  have hg : slices_Grow_byte (k + 3) 260 = some [] := by
    have e : IntKind.i64.wrap ((260 : Int) - IntKind.i64.wrap ((0 : Int) - 0)) = 260 := by simp only [IntKind.wrap_i64]; omega
    have n : Int.toNat (260 : Int) = 260 := rfl
    have n' : Int.toNat (0 : Int) = 0 := rfl
    have e0 : decide ((260 : Int) < 0) = false := rfl
    have e1 : decide ((260 : Int) > 0) = true := rfl
    rw [slices_Grow_byte, e, n, n', e0, e1]
    simp only [cond_true, cond_false]
    rw [ck_pos (by omega), ck_pos (rm (by decide)), ck_pos ⟨by omega, Nat.zero_le _⟩, List.take_zero]
  have g0 : geti [[(114 : Int), (100 : Int), (100 : Int), (108 : Int)], ArrN.list 256 a] (0 : Int) = some [(114 : Int), (100 : Int), (100 : Int), (108 : Int)] := rfl
  have g1 : geti [[(114 : Int), (100 : Int), (100 : Int), (108 : Int)], ArrN.list 256 a] (1 : Int) = some (ArrN.list 256 a) := rfl
  have w0 : IntKind.i64.wrap ((0 : Int) + 1) = 1 := by rw [IntKind.wrap_i64]; omega
  have w1 : IntKind.i64.wrap ((1 : Int) + 1) = 2 := by rw [IntKind.wrap_i64]; omega
  have w2 : IntKind.i64.wrap ((0 : Int) + 4) = 4 := by rw [IntKind.wrap_i64]; omega
  have w3 : IntKind.i64.wrap ((4 : Int) + 256) = 260 := by rw [IntKind.wrap_i64]; omega
  have l4 : (([(114 : Int), (100 : Int), (100 : Int), (108 : Int)].length : Nat) : Int) = 4 := rfl
  have l2 : (([[(114 : Int), (100 : Int), (100 : Int), (108 : Int)], ArrN.list 256 a].length : Nat) : Int) = 2 := rfl
  have l3 : ((256 : Nat) : Int) = 256 := rfl
  have d0 : decide ((0 : Int) < 2) = true := rfl
  have d1 : decide ((1 : Int) < 2) = true := rfl
  have d2 : decide ((2 : Int) < 2) = false := rfl
  have n0 : decide ((4 : Int) < 0) = false := rfl
  have n1 : decide ((260 : Int) < 0) = false := rfl
  rw [slices_Concat_byte, l2]
  simp only [slices_Concat_byte_l0, d0, d1, d2, cond_true, cond_false, g0, g1, Option.bind_some, l4, w2, n0, w0, w1, list_len, l3, w3, n1, hg, l2]
  simp only [slices_Concat_byte_l1, d0, d1, d2, cond_true, cond_false, g0, g1, Option.bind_some, w0, w1]
  rw [ck_pos (rm (by decide)), ck_pos (rm (by rw [list_len]; decide))]
  rfl
theorem autoEncode (K : Nat) (a : api_Auto) (h : EncOk K a) (hr : auto_Right K a = some true) (hl : (encS a).length ≤ LIM) : table_Encode K a = some (encS a, 0) := by
  have hk := h.k
  simp only [encS, List.length_append] at hl
  rw [table_Encode, hr, Option.bind_some]
  simp only [Bool.not_true, cond_false]
  rw [autoConcat K hk, Option.bind_some, autoNum1 K (by omega) _ _ (fits_len h.cl.2) (by rw [List.length_append]; omega), Option.bind_some, autoEnc_l0 K a h _ (by simp only [List.length_append]; omega)]
  simp [encS, List.append_assoc]
end Go.Rv

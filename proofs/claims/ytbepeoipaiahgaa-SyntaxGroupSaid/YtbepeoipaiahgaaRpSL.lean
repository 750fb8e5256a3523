/- The parser, plainly, 4: names, classes. -/
import Derived.Test.YtbepeoipaiahgaaRpSK
namespace Go.Rv
section
variable (K : Nat) {s : ByteArray} {i : Nat} {w : Int} {ns : List api_Node} {d : Int}
theorem name_ok {r : List Nat} (h : At s i (123 :: r)) (hK : 1200 ≤ K) :
    match pName r with
    | .ok t r' => ∃ nm, t = .ref nm ∧ syntax_reader_name K (pst s i w 0 ns d) = some (toB nm, pst s ((s.size - r'.length : Nat) : Int) w 0 ns d) ∧ r' <:+ r
    | .err k x => ∃ (b : ByteArray) (i' : Nat), syntax_reader_name K (pst s i w 0 ns d) = some (b, pst s (i' : Int) ((s.size - x.length : Nat) : Int) k ns d) ∧ i ≤ i' ∧ i' ≤ s.size ∧ k ≠ 0 ∧ x.length ≤ s.size := by
  have ht := h.tail
  have hl := ht.len
  have hsm := h.small
  have hlt := h.lt
  have hex : bs (s.extract (i + 1) s.size) = r := by
    rw [bs_extract, List.take_of_length_le (by rw [bs_len]; omega), ht.2.1]
  have hidx := idx_take (s.extract (i + 1) s.size).data.toList 125 (by decide)
  rw [show (s.extract (i + 1) s.size).data.toList.map UInt8.toNat = r from hex] at hidx
  have htl := take_len (fun c => c != 125) r
  rw [syntax_reader_name, next_cons K h, Option.bind_some]
  simp only
  rw [ck_pos ⟨by omega, by omega, by omega⟩, strings_IndexByte, stringslite_IndexByte, Option.bind_some, Option.bind_some]
  have hix : idxS (s.extract (Int.toNat ((i + 1 : Nat) : Int)) s.size) 125 = match r.dropWhile (fun x => x != 125) with | [] => -1 | _ :: _ => (((r.takeWhile fun x => x != 125).length : Nat) : Int) := by
    rw [idxS, Int.toNat_natCast]
    exact hidx
  rw [hix]
  unfold pName
  cases hd : r.dropWhile (fun c => c != 125) with
  | nil =>
    simp only
    have : decide ((-1 : Int) < 0) = true := by decide
    simp only [this, cond_true, fail_ok, Option.bind_some, List.length_nil, Nat.sub_zero]
    exact ⟨_, i + 1, rfl, by omega, by omega, by decide, by omega⟩
  | cons c r' =>
    simp only
    rw [hd] at htl
    simp only [List.length_cons] at htl
    have hneg : decide ((((r.takeWhile fun x => x != 125).length : Nat) : Int) < 0) = false := decide_eq_false (by omega)
    generalize hm : (r.takeWhile fun x => x != 125).length = m at *
    have e1 : IntKind.i64.wrap (((i + 1 : Nat) : Int) + (m : Int)) = ((i + 1 + m : Nat) : Int) := by rw [w64 (by omega) (by omega)]; omega
    have e2 : IntKind.i64.wrap ((m : Int) + 1) = ((m + 1 : Nat) : Int) := by rw [w64 (by omega) (by omega)]; omega
    have e3 : IntKind.i64.wrap (((i + 1 : Nat) : Int) + ((m + 1 : Nat) : Int)) = ((s.size - r'.length : Nat) : Int) := by rw [w64 (by omega) (by omega)]; omega
    have hnm : bs (s.extract (i + 1) (i + 1 + m)) = r.takeWhile fun x => x != 125 := by
      rw [bs_extract, ← List.take_drop, ht.2.1, ← hm]
      exact (List.prefix_iff_eq_take.1 (List.takeWhile_prefix _)).symm
    simp only [hneg, cond_false, e1, Int.toNat_natCast]
    rw [ck_pos ⟨by omega, by omega, by omega, by omega⟩, Name_ok K _ (by rw [← bs_len, hnm]; omega) (by rw [← bs_len, hnm]; omega), Option.bind_some, hnm]
    cases hok : nameOk (r.takeWhile fun x => x != 125) with
    | true =>
      simp only [Bool.not_true, cond_false, syntax_reader_name_j0, if_true, e2, e3]
      refine ⟨_, rfl, ?_, ?_⟩
      · rw [← hnm, toB_bs]
      · have := dropWhile_suf (fun c => c != 125) r
        rw [hd] at this
        exact (List.suffix_cons c r').trans this
    | false =>
      simp only [Bool.not_false, cond_true, fail_ok, Option.bind_some, syntax_reader_name_j0, Bool.false_eq_true, if_false, e2, e3]
      exact ⟨_, s.size - r'.length, by rw [show s.size - r.length = i + 1 by omega]; rfl, by omega, by omega, by decide, by omega⟩

theorem j5_ok (hK : 1200 ≤ K) (go : Bool → Bool → ByteArray → Int → Int → Int → Int → (List api_Node) → Arr4 → Arr4 → Option (Arr4 × syntax_parser)) (neg a b c : Bool) (lo hi : Nat) (hl : lo < 256) (hh : hi < 256) (i w e : Int) (y2 : Arr4) (p : Nat → Bool) :
    syntax_reader_class_j5 K go neg (lo : Int) (hi : Int) a b c s i w e d ns y2 (st p) = go neg false s i w e d ns y2 (st fun c => p c || (decide (lo ≤ c) && decide (c ≤ hi))) := by
  rw [syntax_reader_class_j5, Range_spec K lo hi hl hh (by omega), Option.bind_some, Or2 K (by omega), Option.bind_some]
/-- What a span's text does. -/
def SpanR (s : ByteArray) (i : Nat) (w d : Int) (ns : List api_Node) (go : Bool → Bool → ByteArray → Int → Int → Int → Int → (List api_Node) → Arr4 → Arr4 → Option (Arr4 × syntax_parser)) (neg : Bool) (y2 : Arr4) (p : Nat → Bool) (f : Option (Arr4 × syntax_parser)) : Re (Nat × Nat) → Prop
  | .ok x r => f = go neg false s ((s.size - r.length : Nat) : Int) w 0 d ns y2 (st fun c => p c || (decide (x.1 ≤ c) && decide (c ≤ x.2)))
  | .err k x => ∃ (q : Nat → Bool) (i' : Nat), f = go neg false s (i' : Int) ((s.size - x.length : Nat) : Int) k d ns y2 (st q) ∧ i ≤ i' ∧ i' ≤ s.size
theorem span_ok {l : List Nat} (h : At s i l) (hK : 1200 ≤ K) (go : Bool → Bool → ByteArray → Int → Int → Int → Int → (List api_Node) → Arr4 → Arr4 → Option (Arr4 × syntax_parser)) (neg a b c : Bool) (y2 : Arr4) (p : Nat → Bool) :
    SpanR s i w d ns go neg y2 p (syntax_reader_class_j1 K go neg a b c s i w 0 d ns y2 (st p)) (pSpan l) := by
  have hl := h.len
  have hm := member_ok (w := w) (ns := ns) (d := d) K h
  rw [syntax_reader_class_j1]
  unfold pSpan
  cases hq : pMember l with
  | err k x =>
    rw [hq] at hm
    simp only [RdN] at hm
    obtain ⟨⟨b0, i', e1, hb, h1, h2⟩, hk, hx⟩ := hm
    have hk' : (k : Int) ≠ 0 := by omega
    rw [e1, Option.bind_some]
    simp only
    rw [skip_bad K hk', Option.bind_some]
    simp only [cond_false, j5_ok K hK go neg a b c b0 b0 hb hb]
    exact ⟨_, i', rfl, h1, h2⟩
  | ok lo r0 =>
    rw [hq] at hm
    simp only [RdN] at hm
    obtain ⟨e1, hb, hsf⟩ := hm
    have h1 := h.suffix hsf
    rw [e1, Option.bind_some]
    simp only
    by_cases hh : r0.head? = some 45
    · obtain ⟨r, rfl⟩ : ∃ r, r0 = 45 :: r := by
        cases r0 with
        | nil => cases hh
        | cons c r => simp at hh; exact ⟨r, by rw [hh]⟩
      have h1t := h1.tail
      have hsf2 : r <:+ l := (List.suffix_cons 45 r).trans hsf
      have hp1 : s.size - (45 :: r).length + 1 = s.size - r.length := by have := h1t.len; omega
      have hm2 := member_ok (w := w) (ns := ns) (d := d) K h1t
      rw [show (45 : Int) = ((45 : Nat) : Int) from rfl, skip_yes K h1, Option.bind_some]
      simp only [cond_true]
      cases hq2 : pMember r with
      | err k x =>
        rw [hq2] at hm2
        simp only [RdN] at hm2
        obtain ⟨⟨b1, i', e2, hb1, h2, h3⟩, hk, hx⟩ := hm2
        have hk' : (k : Int) ≠ 0 := by omega
        rw [e2, Option.bind_some]
        simp only
        have hle : i ≤ i' := by have := suf_len hsf2; omega
        cases decide ((b1 : Int) < (lo : Int)) with
        | true =>
          simp only [cond_true, fail_bad K hk', Option.bind_some, j5_ok K hK go neg a b c lo b1 hb hb1]
          exact ⟨_, i', rfl, hle, h3⟩
        | false =>
          simp only [cond_false, j5_ok K hK go neg a b c lo b1 hb hb1]
          exact ⟨_, i', rfl, hle, h3⟩
      | ok hi r2 =>
        rw [hq2] at hm2
        simp only [RdN] at hm2
        obtain ⟨e2, hb1, hsf3⟩ := hm2
        rw [e2, Option.bind_some]
        simp only
        have ed : decide ((hi : Int) < (lo : Int)) = decide (hi < lo) := by rw [Bool.eq_iff_iff, decide_eq_true_eq, decide_eq_true_eq]; omega
        rw [ed]
        by_cases hlt : hi < lo
        · simp only [hlt, decide_true, cond_true, fail_ok, Option.bind_some, j5_ok K hK go neg a b c lo hi hb hb1, if_true]
          have := suf_len hsf2
          have := suf_len hsf3
          exact ⟨_, s.size - r2.length, by rw [hp1]; rfl, by omega, by omega⟩
        · simp only [hlt, decide_false, cond_false, j5_ok K hK go neg a b c lo hi hb hb1, if_false, SpanR]
    · rw [show (45 : Int) = ((45 : Nat) : Int) from rfl, skip_no K h1 hh, Option.bind_some]
      simp only [cond_false, j5_ok K hK go neg a b c lo lo hb hb]
      split
      · rename_i h2; cases h2
      · rename_i h2; cases h2; exact absurd rfl hh
      · rename_i h2; cases h2; rfl
/-- The loop over a class's members. -/
def SpS (K : Nat) (s : ByteArray) (l : List Nat) (first : Bool) (p : Nat → Bool) : Re Pt → Prop
  | .ok t r => ∃ q, t = .set (st q) ∧ ∀ (i : Nat) (w d : Int) (ns : List api_Node) (neg : Bool) (y2 : Arr4) (k : Nat), At s i l → l.length + 2 ≤ k →
      syntax_reader_class_l0 K k neg first s i w 0 d ns y2 (st p) = syntax_reader_class_j2 K neg s ((s.size - r.length : Nat) : Int) w 0 d ns y2 (st q)
  | .err kk x => ∀ (i : Nat) (w d : Int) (ns : List api_Node) (neg : Bool) (y2 : Arr4) (k : Nat), At s i l → l.length + 2 ≤ k →
      ∃ (q : Nat → Bool) (i' : Nat), syntax_reader_class_l0 K k neg first s i w 0 d ns y2 (st p) = syntax_reader_class_j2 K neg s (i' : Int) ((s.size - x.length : Nat) : Int) kk d ns y2 (st q) ∧ i ≤ i' ∧ i' ≤ s.size
theorem spans_ok (hK : 1200 ≤ K) {g : Goal} {l : List Nat} {res : Re Pt} (h : PR g l res) : ∀ {first p}, g = .spans first p → SpS K s l first p res := by
  have step : ∀ (k : Nat) (neg first : Bool) (i : Nat) (w d : Int) (ns : List api_Node) (y2 : Arr4) (p : Nat → Bool) (l : List Nat), At s i l → (first = false → l.head? ≠ some 93) →
      ∃ a b c, syntax_reader_class_l0 K (k + 1) neg first s i w 0 d ns y2 (st p) = syntax_reader_class_j1 K (syntax_reader_class_l0 K k) neg a b c s i w 0 d ns y2 (st p) := by
    intro k neg first i w d ns y2 p l hat hf
    rw [syntax_reader_class_l0]
    dsimp only
    simp only [beq_self_eq_true, cond_true]
    cases first with
    | true => exact ⟨_, _, _, rfl⟩
    | false =>
      simp only [cond_false]
      rw [show (93 : Int) = ((93 : Nat) : Int) from rfl, is_eq K hat, decide_eq_false (hf rfl), Option.bind_some]
      exact ⟨_, _, _, rfl⟩
  induction h with
  | @spans0 p l h0 =>
    intro first p' hg
    cases hg
    refine ⟨p, rfl, ?_⟩
    intro i w d ns neg y2 k hat hk
    obtain ⟨k, rfl⟩ : ∃ k', k = k' + 1 := ⟨k - 1, by omega⟩
    rw [syntax_reader_class_l0]
    dsimp only
    simp only [beq_self_eq_true, cond_true, cond_false]
    rw [show (93 : Int) = ((93 : Nat) : Int) from rfl, is_eq K hat, decide_eq_true h0, Option.bind_some]
    simp only [Bool.not_true, cond_false]
    rw [at_end s i l hat]
  | @spansE first p l k x hf hs =>
    intro first' p' hg
    cases hg
    intro i w d ns neg y2 kk hat hk
    obtain ⟨kk, rfl⟩ : ∃ k', kk = k' + 2 := ⟨kk - 2, by omega⟩
    obtain ⟨a, b, c, e1⟩ := step (kk + 1) neg first i w d ns y2 p l hat hf
    have h2 := span_ok (w := w) (ns := ns) (d := d) K hat hK (syntax_reader_class_l0 K (kk + 1)) neg a b c y2 p
    have hsf := pSpan_suf l
    rw [hs] at h2 hsf
    obtain ⟨q, i', e2, h3, h4⟩ := h2
    refine ⟨q, i', ?_, h3, h4⟩
    rw [e1, e2, syntax_reader_class_l0]
    dsimp only
    have hk0 := hsf.2.1
    have : ((k : Int) == 0) = false := by simp; omega
    rw [this, cond_false]
  | @spans1 first p l lo hi r res hf hs hp ih =>
    intro first' p' hg
    cases hg
    have ihs := ih rfl
    have hlen := pSpan_ok hs
    have hsf := pSpan_suf l
    rw [hs] at hsf
    cases res with
    | ok t r' =>
      obtain ⟨q, rfl, ihk⟩ := ihs
      refine ⟨q, rfl, ?_⟩
      intro i w d ns neg y2 k hat hk
      obtain ⟨k, rfl⟩ : ∃ k', k = k' + 1 := ⟨k - 1, by omega⟩
      obtain ⟨a, b, c, e1⟩ := step k neg first i w d ns y2 p l hat hf
      have h2 := span_ok (w := w) (ns := ns) (d := d) K hat hK (syntax_reader_class_l0 K k) neg a b c y2 p
      rw [hs] at h2
      simp only [SpanR] at h2
      rw [e1, h2]
      exact ihk _ w d ns neg y2 k (hat.suffix hsf) (by omega)
    | err kk x =>
      intro i w d ns neg y2 k hat hk
      obtain ⟨k, rfl⟩ : ∃ k', k = k' + 1 := ⟨k - 1, by omega⟩
      obtain ⟨a, b, c, e1⟩ := step k neg first i w d ns y2 p l hat hf
      have h2 := span_ok (w := w) (ns := ns) (d := d) K hat hK (syntax_reader_class_l0 K k) neg a b c y2 p
      rw [hs] at h2
      simp only [SpanR] at h2
      obtain ⟨q, i', e2, h3, h4⟩ := ihs _ w d ns neg y2 k (hat.suffix hsf) (by omega)
      have := hat.len
      exact ⟨q, i', by rw [e1, h2, e2], by omega, h4⟩
  | _ => intro _ _ hg; cases hg
end
end Go.Rv

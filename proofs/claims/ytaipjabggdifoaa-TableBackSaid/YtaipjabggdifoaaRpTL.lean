/- TableDecodes, TableBack, TableOnce, plainly. -/
import Derived.Test.YtaipjabggdifoaaRpTK
namespace Go.Rv
theorem same_of (K : Nat) {a b : aAu} (ha : Yy a) (oa : Okay a) (ka : D0 a K) (hb : Yy b) (ob : Okay b) (kb : D0 b K) : O1 K a b = some (decide (sameS a b)) :=
 same_iff K a b ⟨ka.2.1, oa.counts⟩ ⟨ka.2.2.1, oa.states⟩ (fun _ hs => ha.cmpOk oa ka hs) (fun _ hs => hb.cmpOk ob kb hs)
theorem flat_ge {α : Type} {w : α → List Int} : ∀ {l : List α}, (∀ x ∈ l, 1 ≤ (w x).length) → l.length ≤ (l.flatMap w).length := by
 intro l
 induction l with
 | nil => intro _; simp
 | cons x l ih =>
  intro h
  rw [List.flatMap_cons, List.length_append, List.length_cons]
  have h1 := h x List.mem_cons_self
  have h2 := ih (fun y hy => h y (List.mem_cons_of_mem _ hy))
  omega
theorem Ey (v : Int) : 1 ≤ (Ju v).length := by
 simp only [Ju, Dy]
 split <;> simp
theorem listW_pos (l : List Int) : 1 ≤ (Li l).length := by
 rw [Li, List.length_append]
 have := Ey (l.length : Int)
 omega
theorem enc_long {a : aAu} (h : Yy a) (ho : Okay a) : 266 ≤ (O5 a).length := by
 obtain ⟨m1, m2, m3⟩ := splitF_top 256 0 0 a.Split.Many h.split
 have hm := m2 0 (by omega) (by omega)
 have h0 := ho.split 0 (by decide)
 have hs0 := h.s0
 obtain ⟨s, ss, hss⟩ : ∃ s ss, a.States = s :: ss := by
  cases hq : a.States with
  | nil => rw [hq] at hs0; simp at hs0
  | cons s ss => exact ⟨s, ss, rfl⟩
 have h' := L5.1 (h.st s (by rw [hss]; exact List.mem_cons_self))
 have hcode := h'.code
 have hcode2 : 1 ≤ Yf s.R.length := by
  simp only [Yf] at hcode ⊢
  split
  ·omega
  ·split
   ·omega
   ·split
    ·omega
    ·split
     ·omega
     ·next h1 h2 h3 h4 => rw [if_neg h1, if_neg h2, if_neg h3, if_neg h4] at hcode; exact absurd rfl hcode
 have hr1 := h'.rule; have hn1 := h'.next
 obtain ⟨n, ns, hns⟩ : ∃ n ns, s.Next = n :: ns := by
  cases hq : s.Next with
  | nil => rw [hq] at hn1; simp only [List.length_nil] at hn1; omega
  | cons n ns => exact ⟨n, ns, rfl⟩
 obtain ⟨u, us, hus⟩ : ∃ u us, s.Rule = u :: us := by
  cases hq : s.Rule with
  | nil => rw [hq] at hr1; simp only [List.length_nil] at hr1; omega
  | cons n ns => exact ⟨n, ns, rfl⟩
 have hrow := (h'.row 0 (by rw [hns]; simp) (by rw [hus]; simp)).2.2.1
 have hget : s.Next[0]'(by rw [hns]; simp) = n := by simp only [hns, List.getElem_cons_zero]
 rw [hget] at hrow
 have hnl : 1 ≤ n.length := by omega
 have w1 : n.length ≤ (n.flatMap Lg).length := flat_ge fun m _ => by
  rw [Lg, List.length_append]
  have := Ey (IntKind.i64.wrap (m.To + 1))
  omega
 have w2 : 2 ≤ (Cd s).length := by
  rw [Cd, hus, hns, List.zip_cons_cons, List.flatMap_cons, List.length_append, rowW, List.length_append]
  have := Ey (IntKind.i64.wrap (u + 1))
  dsimp only
  omega
 have w3 : 2 ≤ (stW s).length := by
  rw [stW, List.length_append]
  have := listW_pos s.L; have := listW_pos s.R
  omega
 have w4 := Ey (a.Counts.length : Int)
 have w5 := Ey (a.States.length : Int)
 rw [O5]
 simp only [List.length_append, list_len]
 have e1 : (a.States.flatMap stW).length = (stW s).length + (ss.flatMap stW).length := by rw [hss, List.flatMap_cons, List.length_append]
 have e2 : (a.States.flatMap Cd).length = (Cd s).length + (ss.flatMap Cd).length := by rw [hss, List.flatMap_cons, List.length_append]
 have e3 : Pu.length = 4 := rfl
 rw [e1, e2, e3]
 omega
theorem wf_u16 {n : Int} (h : (Lit.int .u16 n).wf = true) : 0 ≤ n ∧ n < 65536 := by
 simp [Lit.wf, IntKind.min, IntKind.max, IntKind.signed, IntKind.bits] at h
 omega
theorem tmod_in {x : Int} {n : Nat} (hx : 0 ≤ x) (hn : 0 < n) : 0 ≤ Int.tmod x (n : Int) ∧ Int.tmod x (n : Int) < n :=
 ⟨Int.tmod_nonneg _ hx, Int.tmod_lt_of_pos _ (by omega)⟩
theorem Back_plain (a : aAu) (c b : Int) (ha : Okay a) (hc : 0 ≤ c ∧ c < 9223372036854775808) (hb : 0 ≤ b ∧ b < 256) : ∃ K, He K a c b = some true := by
 obtain ⟨K, hK1, hK2⟩ : ∃ K, BIG ≤ K ∧ needK (fewS a) ≤ K := ⟨max BIG (needK (fewS a)), by omega, by omega⟩
 refine ⟨K, ?_⟩
 have hK := big_need (fewS a) hK2
 have oa := few_okay ha
 have h1 := (encode_both K _ oa hK).1
 rw [He, shown_at hK.1, bS, few_eq, bS, h1, bS]
 generalize fewS a = x at *
 by_cases rx : Dc x = true
 ·have sx := rightS.1 rx
  rw [if_pos rx]
  dsimp only
  have hl := enc_long sx oa
  have hl2 := sx.len
  have hbx := enc_bytes sx oa
  obtain ⟨p, hp⟩ : ∃ p, p = O5 x := ⟨_, rfl⟩
  rw [← hp] at hl hl2 hbx ⊢
  have hwc : IntKind.i64.wrap c = c := w64 (by omega) (by omega)
  obtain ⟨t1, t2⟩ := tmod_in hc.1 (n := p.length) (by omega)
  rw [hwc]
  generalize Int.tmod c (p.length : Int) = t at *
  obtain ⟨d, hd, hd'⟩ := DecodeT K hK1 p hbx
  have htk : Vb ((p.take t.toNat).drop 0) := fun v hv => hbx v (List.mem_of_mem_take (by rwa [List.drop_zero] at hv))
  obtain ⟨e, he, he'⟩ := DecodeT K hK1 _ htk
  have hpb : Vb ((([] : List Int) ++ p) ++ [b]) := fun v hv => by
   rw [List.nil_append] at hv
   rcases List.mem_append.1 hv with hv | hv
   ·exact hbx v hv
   ·rw [List.mem_singleton.1 hv]; exact hb
  obtain ⟨f, hf, hf'⟩ := DecodeT K hK1 _ hpb
  rw [bne_self_eq_false, cF, decide_eq_false (show ¬ (p.length : Int) < 266 by omega), cF, hd, bS, Y0 (show (p.length : Int) ≠ 0 by omega), Y0 ⟨t1, by omega, by omega⟩, he, bS, Y0 (rm (by simp only [List.length_nil]; omega)), Y0 (Kw.2 ⟨by simp only [List.nil_append, List.length_singleton, maxLen, LIM] at *; omega, by simp only [List.nil_append, List.length_singleton, LIM] at *; omega⟩), hf, bS, cT]
  rcases hd' with ⟨a', rfl, a1, a2, a3, a4⟩ | ⟨rfl, h0⟩
  ·rcases he' with ⟨z, rfl, z1, z2, z3, z4⟩ | ⟨rfl, _⟩
   ·exfalso
    have := enc_code z1 sx (r := p.drop t.toNat) (r' := []) (by rw [z4, List.drop_zero, List.take_append_drop, ← hp, List.append_nil])
    have h2 := congrArg List.length this.2
    rw [List.length_drop, List.length_nil] at h2
    omega
   ·rcases hf' with ⟨z, rfl, z1, z2, z3, z4⟩ | ⟨rfl, _⟩
    ·exfalso
     have := enc_code z1 sx (r := []) (r' := [b]) (by rw [z4, List.nil_append, List.append_nil, hp])
     exact absurd this.2 (by simp)
    ·dsimp only
     rw [same_of K sx oa hK a1 a2 a3, bS, decide_eq_true (enc_inj sx a1 (by rw [← hp, a4])), cT]
     rfl
  ·exact absurd hp.symm (h0 x sx oa)
 ·rw [if_neg rx]
  have h2 : Mx K x = some false := by
   have := (refRight K x oa hK)
   rw [this, eq_false_of_ne_true rx]
  dsimp only
  rw [show ((1 : Int) != 0) = true from rfl, cT, cT, beq_self_eq_true, cT, h2]
  rfl
end Go.Rv

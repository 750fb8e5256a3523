/- TableDecodes, TableBack, TableOnce, plainly. -/
import Derived.Test.YtaipjabggdifoaaRpTK
namespace Go.Rv
theorem take_min (x : List Int) : ∃ l, (∀ v ∈ l, v ∈ x) ∧ l.length ≤ 20000 ∧ l.length ≤ x.length ∧ l = (x.take (Int.toNat (if (20000 : Int) < (x.length : Int) then (20000 : Int) else (x.length : Int)))).drop 0 ∧ (0 ≤ (if (20000 : Int) < (x.length : Int) then (20000 : Int) else (x.length : Int)) ∧ 0 ≤ (Int.toNat (if (20000 : Int) < (x.length : Int) then (20000 : Int) else (x.length : Int))) ∧ (Int.toNat (if (20000 : Int) < (x.length : Int) then (20000 : Int) else (x.length : Int))) ≤ x.length) := by
 refine ⟨_, fun v hv => ?_, ?_, ?_, rfl, ?_⟩
 ·rw [List.drop_zero] at hv
  exact List.mem_of_mem_take hv
 ·rw [List.drop_zero, List.length_take]
  split <;> omega
 ·rw [List.drop_zero, List.length_take]
  omega
 ·split
  ·exact ⟨by decide, by omega, by omega⟩
  ·exact ⟨by omega, by omega, by omega⟩
theorem same_of (K : Nat) {a b : aAu} (ha : Yz a) (oa : Okay a) (ka : E2 a K) (hb : Yz b) (ob : Okay b) (kb : E2 b K) : O6 K a b = some (decide (sameS a b)) :=
 same_iff K a b ⟨ka.2.1, oa.counts⟩ ⟨ka.2.2.1, oa.states⟩ (fun _ hs => ha.cmpOk oa ka hs) (fun _ hs => hb.cmpOk ob kb hs)
theorem flat_ge {α : Type} {w : α → List Int} : ∀ {l : List α}, (∀ x ∈ l, 1 ≤ (w x).length) → l.length ≤ (l.flatMap w).length := by
 intro l
 induction l with
 | nil => intro _; simp
 | cons x l ih =>
  intro h
  rw [List.flatMap_cons, List.length_append, List.length_cons]
  have h1 := h x List.mem_cons_self
  have h2 := ih (fun y hy => h y (List.mem_cons_of_mem _ hy))
  omega
theorem E1 (v : Int) : 1 ≤ (Jy v).length := by
 simp only [Jy, Fg]
 split <;> simp
theorem listW_pos (l : List Int) : 1 ≤ (L6 l).length := by
 rw [L6, List.length_append]
 have := E1 (l.length : Int)
 omega
theorem enc_long {a : aAu} (h : Yz a) (ho : Okay a) : 266 ≤ (Og a).length := by
 obtain ⟨m1, m2, m3⟩ := splitF_top 256 0 0 a.Split.Many h.split
 have hm := m2 0 (by omega) (by omega)
 have h0 := ho.split 0 (by decide)
 have hs0 := h.s0
 obtain ⟨s, ss, hss⟩ : ∃ s ss, a.States = s :: ss := by
  cases hq : a.States with
  | nil => rw [hq] at hs0; simp at hs0
  | cons s ss => exact ⟨s, ss, rfl⟩
 have h' := Kq.1 (h.st s (by rw [hss]; exact List.mem_cons_self))
 have hcode := h'.code
 have hcode2 : 1 ≤ Yf s.R.length := by
  simp only [Yf] at hcode ⊢
  split
  ·omega
  ·split
   ·omega
   ·split
    ·omega
    ·split
     ·omega
     ·next h1 h2 h3 h4 => rw [if_neg h1, if_neg h2, if_neg h3, if_neg h4] at hcode; exact absurd rfl hcode
 have hr1 := h'.rule; have hn1 := h'.next
 obtain ⟨n, ns, hns⟩ : ∃ n ns, s.Next = n :: ns := by
  cases hq : s.Next with
  | nil => rw [hq] at hn1; simp only [List.length_nil] at hn1; omega
  | cons n ns => exact ⟨n, ns, rfl⟩
 obtain ⟨u, us, hus⟩ : ∃ u us, s.Rule = u :: us := by
  cases hq : s.Rule with
  | nil => rw [hq] at hr1; simp only [List.length_nil] at hr1; omega
  | cons n ns => exact ⟨n, ns, rfl⟩
 have hrow := (h'.row 0 (by rw [hns]; simp) (by rw [hus]; simp)).2.2.1
 have hget : s.Next[0]'(by rw [hns]; simp) = n := by simp only [hns, List.getElem_cons_zero]
 rw [hget] at hrow
 have hnl : 1 ≤ n.length := by omega
 have w1 : n.length ≤ (n.flatMap Lj).length := flat_ge fun m _ => by
  rw [Lj, List.length_append]
  have := E1 (IntKind.i64.wrap (m.To + 1))
  omega
 have w2 : 2 ≤ (Cg s).length := by
  rw [Cg, hus, hns, List.zip_cons_cons, List.flatMap_cons, List.length_append, rowW, List.length_append]
  have := E1 (IntKind.i64.wrap (u + 1))
  dsimp only
  omega
 have w3 : 2 ≤ (stW s).length := by
  rw [stW, List.length_append]
  have := listW_pos s.L; have := listW_pos s.R
  omega
 have w4 := E1 (a.Counts.length : Int)
 have w5 := E1 (a.States.length : Int)
 rw [Og]
 simp only [List.length_append, list_len]
 have e1 : (a.States.flatMap stW).length = (stW s).length + (ss.flatMap stW).length := by rw [hss, List.flatMap_cons, List.length_append]
 have e2 : (a.States.flatMap Cg).length = (Cg s).length + (ss.flatMap Cg).length := by rw [hss, List.flatMap_cons, List.length_append]
 have e3 : Rw.length = 4 := rfl
 rw [e1, e2, e3]
 omega
theorem wf_u16 {n : Int} (h : (Lit.int .u16 n).wf = true) : 0 ≤ n ∧ n < 65536 := by
 simp [Lit.wf, IntKind.min, IntKind.max, IntKind.signed, IntKind.bits] at h
 omega
theorem tmod_in {x : Int} {n : Nat} (hx : 0 ≤ x) (hn : 0 < n) : 0 ≤ Int.tmod x (n : Int) ∧ Int.tmod x (n : Int) < n :=
 ⟨Int.tmod_nonneg _ hx, Int.tmod_lt_of_pos _ (by omega)⟩
theorem xor_zero {v : Int} (h : 0 ≤ v ∧ v < 256) : bits .xor .u8 v 0 = v := by
 obtain ⟨n, rfl⟩ : ∃ n : Nat, v = (n : Int) := ⟨v.toNat, by omega⟩
 have h1 : BitVec.ofInt 8 (n : Int) ^^^ BitVec.ofInt 8 0 = BitVec.ofInt 8 (n : Int) := BitVec.xor_zero
 show IntKind.u8.wrap (((BitVec.ofInt 8 (n : Int) ^^^ BitVec.ofInt 8 0).toNat : Nat) : Int) = _
 rw [h1, BitVec.toNat_ofInt, IntKind.wrap_u8]
 omega
theorem xor_u8 (v b : Int) : 0 ≤ bits .xor .u8 v b ∧ bits .xor .u8 v b < 256 := by
 simp only [bits, IntKind.wrap_u8]
 omega
theorem xor_ne {v b : Int} (hv : 0 ≤ v ∧ v < 256) (hb : 0 ≤ b ∧ b < 256) (h : bits .xor .u8 v b = v) : b = 0 := by
 obtain ⟨n, rfl⟩ : ∃ n : Nat, v = (n : Int) := ⟨v.toNat, by omega⟩
 obtain ⟨m, rfl⟩ : ∃ m : Nat, b = (m : Int) := ⟨b.toNat, by omega⟩
 have hn : n < 256 := by omega
 have hm : m < 256 := by omega
 have e1 : BitVec.ofInt 8 (n : Int) ^^^ BitVec.ofInt 8 (m : Int) = BitVec.ofInt 8 (n : Int) := by
  apply BitVec.eq_of_toNat_eq
  have h1 : (bits .xor .u8 (n : Int) (m : Int)) = (((BitVec.ofInt 8 (n : Int) ^^^ BitVec.ofInt 8 (m : Int)).toNat : Nat) : Int) := by
   have h2 : (BitVec.ofInt 8 (n : Int) ^^^ BitVec.ofInt 8 (m : Int)).toNat < 256 := BitVec.isLt _
   show IntKind.u8.wrap (((BitVec.ofInt 8 (n : Int) ^^^ BitVec.ofInt 8 (m : Int)).toNat : Nat) : Int) = _
   rw [IntKind.wrap_u8]
   omega
  have h3 : (BitVec.ofInt 8 (n : Int)).toNat = n := by
   rw [BitVec.toNat_ofInt]
   omega
  rw [h3]
  rw [h1] at h
  omega
 have e2 : BitVec.ofInt 8 (m : Int) = 0#8 := by
  have := congrArg (BitVec.ofInt 8 (n : Int) ^^^ ·) e1
  simp only [← BitVec.xor_assoc, BitVec.xor_self, BitVec.zero_xor] at this
  exact this
 have e3 := congrArg BitVec.toNat e2
 rw [BitVec.toNat_ofInt] at e3
 simp at e3
 omega
theorem Once_plain (x : List Int) (c b : Int) (hx : Wj x) (hc : 0 ≤ c ∧ c < 9223372036854775808) (hb : 0 ≤ b ∧ b < 256) : ∃ K, Hf K x c b = some true := by
 refine ⟨BIG, ?_⟩
 obtain ⟨K, hK⟩ : ∃ K, K = BIG := ⟨_, rfl⟩
 rw [← hK]
 have hK1 : BIG ≤ K := by omega
 have hK2 : 300 ≤ K := by simp only [BIG] at hK1; omega
 obtain ⟨l, hl1, hl2, _, hl, hck⟩ := take_min x
 have hlb : Wj l := fun v hv => hx v (hl1 v hv)
 obtain ⟨r, hr, hr'⟩ := DecodeT K hK1 l hlb
 rw [Hf, shown_at hK2, bS, Y5 hck, ← hl, hr, bS]
 rcases hr' with ⟨a, rfl, a1, a2, a3, a4⟩ | ⟨rfl, h0⟩
 ·have ha : Dg a = true := rightS.2 a1
  have hlen := enc_long a1 a2
  rw [a4] at hlen
  dsimp only
  rw [bne_self_eq_false, cF, (encode_both K a a2 a3).1, bS, if_pos ha, a4]
  dsimp only
  rw [bne_self_eq_false, cF, beq_self_eq_true, Bool.not_true, cF, refRight K a a2 a3, bS, ha, Bool.not_true, cF, Y5 (rm (by simp only [List.length_nil, LIM]; omega)), List.nil_append, Y5 (show (l.length : Int) ≠ 0 by omega)]
  have hwc : IntKind.i64.wrap c = c := w64 (by omega) (by omega)
  obtain ⟨t1, t2⟩ := tmod_in hc.1 (n := l.length) (by omega)
  rw [hwc]
  generalize Int.tmod c (l.length : Int) = t at *
  obtain ⟨i, rfl⟩ : ∃ i : Nat, t = (i : Int) := ⟨t.toNat, by omega⟩
  have hi : i < l.length := by omega
  have hv := hlb _ (List.getElem_mem hi)
  have hyb : Wj (l.set i (bits .xor .u8 l[i] b)) := fun v hv => by
   rcases List.mem_or_eq_of_mem_set hv with h | h
   ·exact hlb v h
   ·rw [h]; exact xor_u8 _ _
  obtain ⟨q, hq, hq'⟩ := DecodeT K hK1 _ hyb
  rw [Zb hi, bS, Int.toNat_natCast, hq, bS, cT]
  have heq : l.set i (bits .xor .u8 l[i] b) = l ↔ b = 0 := by
   constructor
   ·intro h
    have h1 := List.getElem_of_eq h (i := i) (by rw [List.length_set]; exact hi)
    rw [List.getElem_set_self] at h1
    exact xor_ne hv hb h1
   ·intro h
    rw [h, xor_zero hv, List.set_getElem_self]
  rcases hq' with ⟨z, rfl, z1, z2, z3, z4⟩ | ⟨rfl, h0⟩
  ·dsimp only
   rw [beq_self_eq_true, cT, same_of K a1 a2 a3 z1 z2 z3, bS]
   congr 1
   rw [beq_iff_eq]
   refine I5 ?_
   rw [beq_iff_eq, ← heq, ← z4, ← a4]
   exact ⟨fun h => enc_inj a1 z1 h.symm, fun h => (enc_same h).symm⟩
  ·dsimp only
   have hb0 : b ≠ 0 := fun h => h0 a a1 a2 (by rw [heq.2 h, a4])
   rw [show ((6 : Int) == 0) = false from rfl, cF, beq_eq_false_iff_ne.2 hb0]
   rfl
 ·rfl
end Go.Rv

/- TableDecodes, TableBack, TableOnce, plainly. -/
import Derived.Test.YtaipjabggdifoaaRpTK
namespace Go.Rv
theorem take_min (x : List Int) : ∃ l, (∀ v ∈ l, v ∈ x) ∧ l.length ≤ 20000 ∧ l.length ≤ x.length ∧ l = (x.take (Int.toNat (if (20000 : Int) < (x.length : Int) then (20000 : Int) else (x.length : Int)))).drop 0 ∧ (0 ≤ (if (20000 : Int) < (x.length : Int) then (20000 : Int) else (x.length : Int)) ∧ 0 ≤ (Int.toNat (if (20000 : Int) < (x.length : Int) then (20000 : Int) else (x.length : Int))) ∧ (Int.toNat (if (20000 : Int) < (x.length : Int) then (20000 : Int) else (x.length : Int))) ≤ x.length) := by
 refine ⟨_, fun v hv => ?_, ?_, ?_, rfl, ?_⟩
 ·rw [List.drop_zero] at hv
  exact List.mem_of_mem_take hv
 ·rw [List.drop_zero, List.length_take]
  split <;> omega
 ·rw [List.drop_zero, List.length_take]
  omega
 ·split
  ·exact ⟨by decide, by omega, by omega⟩
  ·exact ⟨by omega, by omega, by omega⟩
theorem zero_cmp (K : Nat) : (Sl.Counts.length < K + 1 ∧ Sl.Counts.length ≤ 9223372036854775807) ∧ (Sl.States.length < K + 1 ∧ Sl.States.length ≤ 9223372036854775807) := ⟨⟨by show 0 < _; omega, by decide⟩, by show 0 < _; omega, by decide⟩
theorem same_of (K : Nat) {a b : aAu} (ha : Yq a) (oa : Qah a) (ka : D4 a K) (hb : Yq b) (ob : Qah b) (kb : D4 b K) : P6 K a b = some (decide (sameS a b)) :=
 same_iff K a b ⟨ka.2.1, oa.counts⟩ ⟨ka.2.2.1, oa.states⟩ (fun _ hs => ha.cmpOk oa ka hs) (fun _ hs => hb.cmpOk ob kb hs)
theorem same_zero (K : Nat) (hK : 0 < K) : P6 K Sl Sl = some true := by
 obtain ⟨k, rfl⟩ : ∃ k, K = k + 1 := ⟨K - 1, by omega⟩
 obtain ⟨h1, h2⟩ := zero_cmp k
 exact (same_iff (k + 1) Sl Sl h1 h2 (fun _ hs => by cases hs) (fun _ hs => by cases hs)).trans (congrArg some (decide_eq_true (⟨rfl, rfl, rfl, rfl⟩ : sameS Sl Sl)))
theorem Decodes_plain (x : List Int) (hx : Xz x) : ∃ K, Jh K x = some true := by
 refine ⟨BIG, ?_⟩
 obtain ⟨K, hK⟩ : ∃ K, K = BIG := ⟨_, rfl⟩
 rw [← hK]
 have hK1 : BIG ≤ K := by omega
 have hK2 : 300 ≤ K := by simp only [BIG] at hK1; omega
 obtain ⟨l, hl1, hl2, _, hl, hc⟩ := take_min x
 have hlb : Xz l := fun v hv => hx v (hl1 v hv)
 obtain ⟨r, hr, hr'⟩ := DecodeT K hK1 l hlb
 obtain ⟨q, hq, hq'⟩ := DecodeR K hK1 l hlb
 rw [Jh, Z1 hc, ← hl, hr, bS, hq, bS, shown_at hK2, bS, cT]
 rcases hr' with ⟨a, rfl, a1, a2, a3, a4⟩ | ⟨rfl, h0⟩
 ·rcases hq' with ⟨b, rfl, b1, b2, b3, b4⟩ | ⟨rfl, h0⟩
  ·dsimp only
   rw [same_of K a1 a2 a3 b1 b2 b3, bS, decide_eq_true (enc_inj a1 b1 (a4.trans b4.symm)), cT]
   rfl
  ·exact absurd a4 (h0 a a1 a2)
 ·rcases hq' with ⟨b, rfl, b1, b2, b3, b4⟩ | ⟨rfl, _⟩
  ·exact absurd b4 (h0 b b1 b2)
  ·dsimp only
   rw [same_zero K (by omega), bS, cT]
   rfl
end Go.Rv

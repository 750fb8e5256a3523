/- TableOrder, plainly: numbers as bytes can be read again, and are in order. -/
import Derived.Test.YtaipjabggdifoaaRpT6
import Derived.Laws.BitsLemmas
namespace Go.Rv
def u8s (l : List Int) : List UInt8 := l.map fun n => UInt8.ofNat n.toNat
theorem ofBytes_list (xs : List Int) : (ofBytes xs).toList = u8s xs := by
  rw [ByteArray.toList_eq, ofBytes]
  have : ∀ (l : List Int) (r : ByteArray), (l.foldl (fun r n => r.push (UInt8.ofNat n.toNat)) r).data.toList = r.data.toList ++ u8s l := by
    intro l
    induction l with
    | nil => intro r; simp [u8s]
    | cons x l ih =>
      intro r
      rw [List.foldl_cons, ih]
      simp [u8s, ByteArray.push]
  simpa using this xs ByteArray.empty
def isBytes (l : List Int) : Prop := ∀ x ∈ l, 0 ≤ x ∧ x < 256
theorem u8_inj {a b : Int} (ha : 0 ≤ a ∧ a < 256) (hb : 0 ≤ b ∧ b < 256) (h : UInt8.ofNat a.toNat = UInt8.ofNat b.toNat) : a = b := by
  have := congrArg UInt8.toNat h
  rw [UInt8.toNat_ofNat_of_lt' (by show a.toNat < 256; omega), UInt8.toNat_ofNat_of_lt' (by show b.toNat < 256; omega)] at this
  omega
theorem u8s_inj : ∀ {l m : List Int}, isBytes l → isBytes m → u8s l = u8s m → l = m := by
  intro l
  induction l with
  | nil =>
    intro m _ _ h
    cases m with
    | nil => rfl
    | cons y m => simp [u8s] at h
  | cons x l ih =>
    intro m hl hm h
    cases m with
    | nil => simp [u8s] at h
    | cons y m =>
      simp only [u8s, List.map_cons, List.cons.injEq] at h
      rw [u8_inj (hl x List.mem_cons_self) (hm y List.mem_cons_self) h.1, ih (fun z hz => hl z (List.mem_cons_of_mem _ hz)) (fun z hz => hm z (List.mem_cons_of_mem _ hz)) h.2]
theorem ofBytes_beq {l m : List Int} (hl : isBytes l) (hm : isBytes m) : ((ofBytes l).toList == (ofBytes m).toList) = (l == m) := by
  rw [ofBytes_list, ofBytes_list, Bool.eq_iff_iff, beq_iff_eq, beq_iff_eq]
  exact ⟨u8s_inj hl hm, fun h => by rw [h]⟩
theorem numF_bytes : ∀ (k n : Nat), isBytes (numF k n) := by
  intro k
  induction k with
  | zero => intro n x hx; simp [numF] at hx
  | succ k ih =>
    intro n x hx
    simp only [numF] at hx
    split at hx
    · rw [List.mem_singleton] at hx; omega
    · rcases List.mem_cons.1 hx with rfl | hx
      · omega
      · exact ih _ x hx
end Go.Rv

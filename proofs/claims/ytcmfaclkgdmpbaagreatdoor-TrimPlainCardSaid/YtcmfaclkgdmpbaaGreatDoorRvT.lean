/- A LOGIC OF ABSTRACT STATES OVER THE MODEL, part T: arrays of many numbers; boxes that nobody writes any more, and slices of them. -/
import Derived.Test.YtcmfaclkgdmpbaaGreatDoorRvS
namespace Go.Rv
structure Zn where
 f : Nat → Int
def Zn.get (a : Zn) (i : Int) : Int := a.f i.toNat
def Zn.set (a : Zn) (i v : Int) : Zn := ⟨fun j => if j = i.toNat then v else a.f j⟩
def Zn.dc (n : Nat) (k : IntKind) (a : Zn) : List DC := (List.range n).map fun i => .ex (.int k (a.f i))
def Zn.oc (n : Nat) (k : IntKind) (a : Zn) : List OC := (List.range n).map fun i => .d (.ex (.int k (a.f i)))
theorem Jm {n : Nat} {k : IntKind} {a : Zn} : (a.oc n k).length = n := by simp [Zn.oc]
theorem Zn.dc_get {n : Nat} {k : IntKind} {a : Zn} {j m : Int} (h0 : 0 ≤ j) (h1 : j < m) (hm : m = (n : Int) := by decide) : (a.dc n k)[j.toNat]? = some (.ex (.int k (a.get j))) := by
 have : j.toNat < n := by omega
 simp [Zn.dc, Zn.get, this]
theorem Tt {n : Nat} {k : IntKind} {a : Zn} {i : Nat} (h : i < n) : (a.oc n k)[i]? = some (.d (.ex (.int k (a.f i)))) := by simp [Zn.oc, h]
theorem Zn.oc_get {n : Nat} {k : IntKind} {a : Zn} {pre post : List OC} {j m : Int} (h0 : 0 ≤ j) (h1 : j < m) (hm : m = (n : Int) := by decide) : (pre ++ (a.oc n k ++ post))[pre.length + j.toNat * 1]? = some (.d (.ex (.int k (a.get j)))) := by
 have : j.toNat < n := by omega
 rw [List.getElem?_append_right (by omega), Qhi, Nat.add_sub_cancel_left, List.getElem?_append_left (by rw [Jm]; exact this), Tt this]
 rfl
theorem Zn.oc_lt {n : Nat} {k : IntKind} {a : Zn} {pre post : List OC} {j m : Int} (h0 : 0 ≤ j) (h1 : j < m) (hm : m = (n : Int) := by decide) : pre.length + j.toNat * 1 < (pre ++ (a.oc n k ++ post)).length := by
 simp only [Qfu, Jm]; omega
theorem Zn.oc_set {n : Nat} {k : IntKind} {a : Zn} {pre post : List OC} {j v m : Int} (h0 : 0 ≤ j) (h1 : j < m) (hm : m = (n : Int) := by decide) :
  (pre ++ (a.oc n k ++ post)).take (pre.length + j.toNat * 1) ++ [OC.d (.ex (.int k v))] ++ (pre ++ (a.oc n k ++ post)).drop (pre.length + j.toNat * 1 + 1) = pre ++ ((a.set j v).oc n k ++ post) := by
 have hj : j.toNat < n := by omega
 rw [Qh5, Qi2, Qi3, Qhi, Qfx, Qfx]
 refine congrArg (pre ++ ·) ?_
 rw [Qhl (by rw [Jm]; omega), List.drop_append_of_le_length (by rw [Jm]; omega)]
 rw [← Qfx, ← Qfx]
 refine congrArg (· ++ post) ?_
 apply List.ext_getElem?
 intro i
 rcases Qi1 i n with hi | hi
 ·rw [Tt hi]
  rcases Nat.lt_trichotomy i j.toNat with h | h | h
  ·rw [Qfx, List.getElem?_append_left (by simp [Jm]; omega), List.getElem?_take, if_pos h, Tt hi]
   simp only [Zn.set, if_neg (show i ≠ j.toNat by omega)]
  ·rw [Qfx, List.getElem?_append_right (by simp [Jm]; omega)]
   have : i - ((a.oc n k).take j.toNat).length = 0 := by simp [Jm]; omega
   rw [this]
   simp [Zn.set, h]
  ·rw [List.getElem?_append_right (by simp [Jm]; omega), List.getElem?_drop]
   have : j.toNat + 1 + (i - ((a.oc n k).take j.toNat ++ [OC.d (.ex (.int k v))]).length) = i := by simp [Jm]; omega
   rw [this, Tt hi]
   simp only [Zn.set, if_neg (show i ≠ j.toNat by omega)]
 ·rw [List.getElem?_eq_none (by simp [Jm]; omega), List.getElem?_eq_none (by rw [Jm]; exact hi)]
section
variable {P : Program} {N : Nat} {s : St} {o : Oper} {K : St → Prop}
end
end Go.Rv
